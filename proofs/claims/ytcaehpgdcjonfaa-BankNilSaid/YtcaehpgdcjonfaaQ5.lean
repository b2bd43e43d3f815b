/- A part of a block under a glass; a bank of tables. -/
import Derived.Test.YtcaehpgdcjonfaaQ4
namespace Go.Fo

/-- cells without keys -/
abbrev ρ00 : Nat → Hd := fun _ => ⟨0, 0, 0, false, 0⟩
def Abs.of (cs : List MV) : Abs := ⟨fun m vs => CvL ρ00 m cs vs, fun h vs r => CvL.mono h cs vs (fun _ _ => rfl) r⟩
theorem kf_turn {ρ ρ' : Nat → Hd} {m : Mem} {cs : List MV} (h : MV.kfL cs = true) {vs : List Value} (r : CvL ρ m cs vs) : CvL ρ' m cs vs := CvL.mono (Mle.refl m) cs vs (fun d hd => by rw [kfL_has d cs h] at hd; cases hd) r

theorem CvL.split {ρ : Nat → Hd} {m : Mem} : ∀ {l l' : List MV} {vs : List Value}, CvL ρ m (l ++ l') vs → ∃ v1 v2, vs = v1 ++ v2 ∧ CvL ρ m l v1 ∧ CvL ρ m l' v2
  | [], _, vs, h => ⟨[], vs, rfl, rfl, h⟩
  | x :: l, _, _, ⟨v, us, h, r, s⟩ => by
    obtain ⟨v1, v2, rfl, h1, h2⟩ := CvL.split s
    exact ⟨v :: v1, v2, by rw [h]; rfl, ⟨v, v1, rfl, r, h1⟩, h2⟩

/-- the same block, told otherwise -/
theorem Hp.conv {X : Nat → Prop} {ρ : Nat → Hd} {m : Mem} {L L' : Nat → Option MObj} {w : World} (h : Hp X ρ m L w) (hL : ∀ k o, L' k = some o → ∃ o', L k = some o' ∧ osat ρ m w k o) : Hp X ρ m L' w :=
  ⟨h.mem, fun k o hk => by obtain ⟨_, _, ho⟩ := hL k o hk; exact ho,
    fun k o k' o' b hk hk' hf hf' => by obtain ⟨_, h1, _⟩ := hL k o hk; obtain ⟨_, h2, _⟩ := hL k' o' hk'; exact h.dj k _ k' _ b h1 h2 hf hf',
    fun k o b hk hf => by obtain ⟨_, h1, _⟩ := hL k o hk; exact h.djm k _ b h1 hf, fun k o b hk hf => by obtain ⟨_, h1, _⟩ := hL k o hk; exact h.djX k _ b h1 hf, h.lt⟩

theorem osat_abfoc {ρ : Nat → Hd} {m : Mem} {w : World} {k : Nat} {pre cs post : List MV} (hk : MV.kfL cs = true) : osat ρ m w k (.ab (Abs.of (pre ++ (cs ++ post)))) ↔ osat ρ m w k (.foc pre cs post) := by
  constructor
  · rintro ⟨h, vs, T, h1, h2⟩
    obtain ⟨v1, v', rfl, g1, g2⟩ := CvL.split h2
    obtain ⟨v2, v3, rfl, g3, g4⟩ := CvL.split g2
    exact ⟨h, v1, v2, v3, T, h1, g1, kf_turn hk g3, g4⟩
  · rintro ⟨h, v1, v2, v3, T, h1, g1, g3, g4⟩
    exact ⟨h, _, T, h1, g1.append ((kf_turn hk g3).append g4)⟩
theorem osat_abcells {ρ : Nat → Hd} {m : Mem} {w : World} {k : Nat} {cs : List MV} (hk : MV.kfL cs = true) : osat ρ m w k (.ab (Abs.of cs)) ↔ osat ρ m w k (.cells cs) :=
  ⟨fun ⟨h, vs, T, h1, h2⟩ => ⟨h, vs, T, h1, kf_turn hk h2⟩, fun ⟨h, vs, T, h1, h2⟩ => ⟨h, vs, T, h1, kf_turn hk h2⟩⟩

/-- one cell of what is under the glass -/
theorem foc_cell {ρ : Nat → Hd} {m : Mem} {w : World} {k : Nat} {pre cs post : List MV} (h : osat ρ m w k (.foc pre cs post)) {j : Nat} {x : MV} (hx : cs[j]? = some x) :
    ∃ v, w.cell? ⟨(ρ k).blk, pre.length + j, none⟩ = some v ∧ Cv ρ m x v ∧ w.frozen? ⟨(ρ k).blk, pre.length + j, none⟩ = false := by
  obtain ⟨_, v1, v2, v3, T, h1, g1, g2, g3⟩ := h
  obtain ⟨v, hv, hc⟩ := g2.get j x hx
  refine ⟨v, ?_, hc, by simp [World.frozen?, h1]⟩
  have hl := g1.length
  rw [cell_of h1, List.getElem?_toArray, List.getElem?_append_right (by omega), ← hl, show v1.length + j - v1.length = j by omega, List.getElem?_append_left (List.getElem?_eq_some_iff.1 hv).1]
  exact hv
theorem foc_post {ρ : Nat → Hd} {m : Mem} {w : World} {k : Nat} {pre cs post : List MV} (h : osat ρ m w k (.foc pre cs post)) {i : Nat} {x : MV} (hx : post[i]? = some x) :
    ∃ v, w.cell? ⟨(ρ k).blk, pre.length + (cs.length + i), none⟩ = some v ∧ Cv ρ00 m x v ∧ w.frozen? ⟨(ρ k).blk, pre.length + (cs.length + i), none⟩ = false := by
  obtain ⟨_, v1, v2, v3, T, h1, g1, g2, g3⟩ := h
  obtain ⟨v, hv, hc⟩ := g3.get i x hx
  refine ⟨v, ?_, hc, by simp [World.frozen?, h1]⟩
  have hl := g1.length
  have hl2 := g2.length
  rw [cell_of h1, List.getElem?_toArray, ← List.append_assoc, List.getElem?_append_right (by simp; omega), ← hv]
  congr 1; simp; omega
theorem ab_cell {ρ : Nat → Hd} {m : Mem} {w : World} {k : Nat} {cs : List MV} (h : osat ρ m w k (.ab (Abs.of cs))) {j : Nat} {x : MV} (hx : cs[j]? = some x) :
    ∃ v, w.cell? ⟨(ρ k).blk, j, none⟩ = some v ∧ Cv ρ00 m x v := by
  obtain ⟨_, vs, T, h1, g2⟩ := h
  obtain ⟨v, hv, hc⟩ := CvL.get g2 j x hx
  exact ⟨v, by rw [cell_of h1, List.getElem?_toArray]; exact hv, hc⟩

/-- one cell of a block is written -/
theorem Hp.set1 {X : Nat → Prop} {ρ : Nat → Hd} {m : Mem} {L : Nat → Option MObj} {w : World} (h : Hp X ρ m L w) {key : Nat} {o : MObj} (hk : L key = some o) (hn : (ρ key).nil = false) {arr : Array Value} {T : TypeId} (hb : w.heap[(ρ key).blk]? = some (.cells arr T (0, 0)))
    {off : Nat} (ho : off < arr.size) {v : Value} (hv : ocell v = true) {o' : MObj} (hs : ∀ w', w'.heap[(ρ key).blk]? = some (.cells (arr.set off v ho) T (0, 0)) → osat ρ m w' key o') :
    Hp X ρ m (fun k => if key == k then some o' else L k) (w.setCell ⟨(ρ key).blk, off, none⟩ v) ∧ Nx X m m w (w.setCell ⟨(ρ key).blk, off, none⟩ v) := by
  obtain ⟨_, h2⟩ := run_store (P := default) hb ho hv
  constructor
  · refine h.turn key _ (fun b => b = (ρ key).blk) (fun _ _ => rfl) (.inl rfl) (fun b _ hb => h2.un b hb) (Nat.le_of_eq h2.size.symm) (fun b _ hb => hb ▸ h.djm key _ _ hk ⟨hn, rfl⟩) (fun k o b hne hk' hf hb => ?_) (fun o ho' => ?_)
    · exact hne (h.dj k o key _ b hk' hk hf ⟨hn, hb⟩)
    · simp only [Option.some.injEq] at ho'; subst ho'
      exact ⟨hs _ h2.at_, fun b hf => ⟨h.djm key _ _ hk hf, h.djX key _ _ hk hf, fun k o' hne hk' hf' => hne (h.dj k o' key _ b hk' hk hf' hf)⟩⟩
  · exact h2.nx (h.djX key _ _ hk ⟨hn, rfl⟩)

theorem Hp.setfoc {X : Nat → Prop} {ρ : Nat → Hd} {m : Mem} {L : Nat → Option MObj} {w : World} (h : Hp X ρ m L w) {key : Nat} {pre cs post : List MV} (hk : L key = some (.foc pre cs post)) {j : Nat} (hj : j < cs.length) {x : MV} {v : Value} (hx : Cv ρ m x v) (hv : ocell v = true) :
    Hp X ρ m (fun k => if key == k then some (.foc pre (cs.set j x) post) else L k) (w.setCell ⟨(ρ key).blk, pre.length + j, none⟩ v) ∧ Nx X m m w (w.setCell ⟨(ρ key).blk, pre.length + j, none⟩ v) := by
  obtain ⟨hn, v1, v2, v3, T, h1, g1, g2, g3⟩ := h.obj _ _ hk
  have hl := g1.length
  have hl2 := g2.length
  refine h.set1 hk hn h1 (by simp; omega) hv fun w' hw => ⟨hn, v1, v2.set j v, v3, T, ?_, g1, CvL.set hx j g2, g3⟩
  rw [hw]
  simp only [List.set_toArray, Option.some.injEq, Obj.cells.injEq, and_true]
  congr 1
  rw [List.set_append_right _ _ (by omega), ← hl, show v1.length + j - v1.length = j by omega, List.set_append_left _ _ (by omega)]
theorem Hp.setpost {X : Nat → Prop} {ρ : Nat → Hd} {m : Mem} {L : Nat → Option MObj} {w : World} (h : Hp X ρ m L w) {key : Nat} {pre cs post : List MV} (hk : L key = some (.foc pre cs post)) {i : Nat} (hi : i < post.length) {x : MV} {v : Value} (hx : Cv ρ00 m x v) (hv : ocell v = true) :
    Hp X ρ m (fun k => if key == k then some (.foc pre cs (post.set i x)) else L k) (w.setCell ⟨(ρ key).blk, pre.length + (cs.length + i), none⟩ v) ∧ Nx X m m w (w.setCell ⟨(ρ key).blk, pre.length + (cs.length + i), none⟩ v) := by
  obtain ⟨hn, v1, v2, v3, T, h1, g1, g2, g3⟩ := h.obj _ _ hk
  have hl := g1.length
  have hl2 := g2.length
  have hl3 := g3.length
  refine h.set1 hk hn h1 (by simp; omega) hv fun w' hw => ⟨hn, v1, v2, v3.set i v, T, ?_, g1, g2, CvL.set hx i g3⟩
  rw [hw]
  simp only [List.set_toArray, Option.some.injEq, Obj.cells.injEq, and_true]
  congr 1
  rw [List.set_append_right _ _ (by omega), ← hl, show v1.length + (cs.length + i) - v1.length = cs.length + i by omega, List.set_append_right _ _ (by omega), ← hl2, show v2.length + i - v2.length = i by omega]
theorem Hp.drew {X : Nat → Prop} {ρ : Nat → Hd} {m : Mem} {L : Nat → Option MObj} {w : World} (h : Hp X ρ m L w) : Hp X ρ m L w.drew ∧ Nx X m m w w.drew :=
  ⟨⟨h.mem, fun k o hk => osat.mono (Mle.refl m) (fun _ _ => rfl) rfl (fun _ _ => rfl) (h.obj k o hk), h.dj, h.djm, h.djX, h.lt⟩, ⟨Mle.refl m, fun _ _ => rfl, fun _ _ => rfl, Nat.le_refl _, rfl, rfl, rfl⟩⟩

/-- the tables of a bank: what was made -/
def tcell : Option (List Int) → List MV
  | none => [.int .u32 0, .int .i32 0, .int .u32 0, .nils]
  | some l => [.int .u32 1, .int .i32 0, .int .u32 0, .im (.slice (.int .i16)) l]
def tcs (t : List (Option (List Int))) : List MV := t.flatMap tcell
def pst (t : List (Option (List Int))) (a b : Int) : List MV := tcs t ++ [.int .i64 a, .int .i64 b]
def bkA (t : List (Option (List Int))) (a b : Int) : Abs := Abs.of (pst t a b)
theorem tcell_len (x : Option (List Int)) : (tcell x).length = 4 := by cases x <;> rfl
theorem tcell_kf (x : Option (List Int)) : MV.kfL (tcell x) = true := by cases x <;> rfl
theorem tcs_len : ∀ t : List (Option (List Int)), (tcs t).length = t.length * 4
  | [] => rfl
  | x :: t => by
    have := tcs_len t
    unfold tcs at this ⊢
    rw [List.flatMap_cons, List.length_append, this, tcell_len, List.length_cons]; omega
theorem pst_cut (t0 t1 : List (Option (List Int))) (x : Option (List Int)) (a b : Int) : pst (t0 ++ x :: t1) a b = tcs t0 ++ (tcell x ++ pst t1 a b) := by
  simp [pst, tcs, List.append_assoc]
theorem pst_made (t : List (Option (List Int))) (a b : Int) : (pst t a b)[t.length * 4]? = some (.int .i64 a) := by
  unfold pst; rw [List.getElem?_append_right (by rw [tcs_len]; exact Nat.le_refl _), tcs_len]; simp
theorem pst_told (t : List (Option (List Int))) (a b : Int) : (pst t a b)[t.length * 4 + 1]? = some (.int .i64 b) := by
  unfold pst; rw [List.getElem?_append_right (by rw [tcs_len]; omega), tcs_len, show t.length * 4 + 1 - t.length * 4 = 1 by omega]; rfl
theorem pst_setm (t : List (Option (List Int))) (a b c : Int) : (pst t a b).set (t.length * 4) (.int .i64 c) = pst t c b := by
  unfold pst; rw [List.set_append_right _ _ (by rw [tcs_len]; exact Nat.le_refl _), tcs_len]; simp
theorem pst_sett (t : List (Option (List Int))) (a b c : Int) : (pst t a b).set (t.length * 4 + 1) (.int .i64 c) = pst t a c := by
  unfold pst; rw [List.set_append_right _ _ (by rw [tcs_len]; omega), tcs_len, show t.length * 4 + 1 - t.length * 4 = 1 by omega]; rfl
theorem pst_len (t : List (Option (List Int))) (a b : Int) : (pst t a b).length = t.length * 4 + 2 := by unfold pst; rw [List.length_append, tcs_len]; rfl
theorem kfL_append : ∀ l l' : List MV, MV.kfL l = true → MV.kfL l' = true → MV.kfL (l ++ l') = true
  | [], _, _, h => h
  | x :: l, l', h, h' => by
    simp only [MV.kfL, Bool.and_eq_true, List.cons_append] at h ⊢
    exact ⟨h.1, kfL_append l l' h.2 h'⟩
theorem tcs_kf : ∀ t : List (Option (List Int)), MV.kfL (tcs t) = true
  | [] => rfl
  | x :: t => by
    have := tcs_kf t
    unfold tcs at this ⊢
    rw [List.flatMap_cons]; exact kfL_append _ _ (tcell_kf x) this
theorem pst_kf (t : List (Option (List Int))) (a b : Int) : MV.kfL (pst t a b) = true := kfL_append _ _ (tcs_kf t) rfl
theorem tk {α : Type} {t : List α} {j : Nat} {x : α} (h : t[j]? = some x) : t.take j ++ x :: t.drop (j + 1) = t := by
  obtain ⟨hj, rfl⟩ := List.getElem?_eq_some_iff.1 h
  rw [List.getElem_cons_drop, List.take_append_drop]
/-- a place in the tables -/
theorem tcs_at {t : List (Option (List Int))} {o : Nat} (h1 : t.length = 388) (h2 : o = o / 4 * 4) (h3 : o / 4 < 388) : (tcs (t.take (o / 4))).length = o := by
  rw [tcs_len, List.length_take]; omega
end Go.Fo
