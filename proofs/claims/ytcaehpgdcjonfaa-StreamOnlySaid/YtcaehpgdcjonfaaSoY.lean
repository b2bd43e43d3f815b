/- It streams only behind its calls: the plain fact. -/
import Derived.Test.YtcaehpgdcjonfaaSoX
namespace Go.Fo
theorem al25 : psalterylaw25_alive 300 = some true := by kernel_rfl
theorem far_l (l : List (Int × (List Int × List Int))) (hl : l.length ≤ 100) (k : Nat) : ∀ (m : Nat) (i : Int), k < m → 0 ≤ i → i + k = (l.length : Int) → ∃ z, psalterylaw25_far.l0 300 l m i = some z ∧ (∀ b, z = .inr b → b = true) := by
  induction k with
  | zero =>
    intro m i h h0 h1
    obtain ⟨m, rfl⟩ : ∃ q, m = q + 1 := ⟨m - 1, by omega⟩
    refine ⟨.inl (), ?_, fun b hb => by cases hb⟩
    show psalterylaw25_far.r0 300 l (psalterylaw25_far.l0 300 l m) i = _
    exact bif_eq_f (decide_eq_false (by omega)) rfl
  | succ k ih =>
    intro m i h h0 h1
    obtain ⟨m, rfl⟩ : ∃ q, m = q + 1 := ⟨m - 1, by omega⟩
    obtain ⟨z, hz, hp⟩ := ih m (i + 1) (by omega) (by omega) (by omega)
    rcases Bool.eq_false_or_eq_true (bif decide (((Kd.nth (.pair (.int .i64) (.pair (.slice (.int .u8)) (.slice (.int .u8)))) l (Int.toNat i)).2.1.length : Int) > 300) then true else decide (((Kd.nth (.pair (.int .i64) (.pair (.slice (.int .u8)) (.slice (.int .u8)))) l (Int.toNat i)).2.2.length : Int) > 300)) with c | c
    · refine ⟨.inr true, ?_, fun b hb => by cases hb; rfl⟩
      show psalterylaw25_far.r0 300 l (psalterylaw25_far.l0 300 l m) i = _
      exact bif_eq_t (decide_eq_true (by omega)) (gd_eq ⟨h0, by omega, fun _ => h0, fun _ => by omega⟩ (bif_eq_t c rfl))
    · refine ⟨z, ?_, hp⟩
      show psalterylaw25_far.r0 300 l (psalterylaw25_far.l0 300 l m) i = _
      refine bif_eq_t (decide_eq_true (by omega)) (gd_eq ⟨h0, by omega, fun _ => h0, fun _ => by omega⟩ (bif_eq_f c ?_))
      rw [kw_i64 (by omega) (by omega)]; exact hz
theorem far_w (l : List (Int × (List Int × List Int))) : psalterylaw25_far 300 l = some true ∨ (psalterylaw25_far 300 l = some false ∧ l.length ≤ 100) := by
  by_cases hl : (l.length : Int) > 100
  · left; exact bif_eq_t (decide_eq_true hl) rfl
  · obtain ⟨z, hz, hp⟩ := far_l l (by omega) l.length 300 0 (by omega) (by omega) (by omega)
    rcases z with _ | b
    · right; exact ⟨bif_eq_f (decide_eq_false hl) (bnd_eq hz rfl), by omega⟩
    · left
      have := hp b rfl; subst this
      exact bif_eq_f (decide_eq_false hl) (bnd_eq hz rfl)
theorem call_w (n st ep f0 f1 f2 f3 f4 f5 f6 f7 f8 f9 l0 l1 : Int) (hs : 0 ≤ st ∧ st ≤ 4) (he : 0 ≤ ep ∧ ep ≤ 1048576) :
    (∃ e, (e == 0) = false ∧ stream_Stream_Call 300 n st ep f0 f1 f2 f3 f4 f5 f6 f7 f8 f9 l0 l1 = some (e, st, ep, f0, f1, f2, f3, f4, f5, f6, f7, f8, f9, l0, l1)) ∨
    (n = 1 ∧ st = 1 ∧ stream_Stream_Call 300 n st ep f0 f1 f2 f3 f4 f5 f6 f7 f8 f9 l0 l1 = some (0, 2, ep, f0, f1, f2, f3, f4, f5, f6, f7, f8, f9, l0, l1)) ∨
    (n = 2 ∧ st = 2 ∧ ep < 1048576 ∧ stream_Stream_Call 300 n st ep f0 f1 f2 f3 f4 f5 f6 f7 f8 f9 l0 l1 = some (0, 3, ep + 1, f0, f1, f2, f3, f4, f5, f6, f7, f8, f9, l0, l1)) ∨
    (n = 3 ∧ st = 3 ∧ stream_Stream_Call 300 n st ep f0 f1 f2 f3 f4 f5 f6 f7 f8 f9 l0 l1 = some (0, 2, ep, f0, f1, f2, f3, f4, f5, f6, f7, f8, f9, l0, l1)) ∨
    (n = 4 ∧ st = 2 ∧ stream_Stream_Call 300 n st ep f0 f1 f2 f3 f4 f5 f6 f7 f8 f9 l0 l1 = some (0, 1, ep, f0, f1, f2, f3, f4, f5, f6, f7, f8, f9, l0, l1)) ∨
    (n = 5 ∧ (st = 1 ∨ st = 2 ∨ st = 3) ∧ stream_Stream_Call 300 n st ep f0 f1 f2 f3 f4 f5 f6 f7 f8 f9 l0 l1 = some (0, 4, ep, f0, f1, f2, f3, f4, f5, f6, f7, f8, f9, l0, l1)) ∨
    (n = 6 ∧ st = 4 ∧ stream_Stream_Call 300 n st ep f0 f1 f2 f3 f4 f5 f6 f7 f8 f9 l0 l1 = some (0, 0, ep, 0, 0, 0, 0, 0, 0, 0, 0, 0, 0, 0, 0)) := by
  by_cases hn : n < 1 ∨ n > 6
  · left
    refine ⟨1, rfl, bif_eq_t ?_ rfl⟩
    rcases hn with hn | hn
    · rw [decide_eq_true hn]; rfl
    · rw [decide_eq_true hn]; cases decide (n < 1) <;> rfl
  have hn' : n = 1 ∨ n = 2 ∨ n = 3 ∨ n = 4 ∨ n = 5 ∨ n = 6 := by omega
  have hs' : st = 0 ∨ st = 1 ∨ st = 2 ∨ st = 3 ∨ st = 4 := by omega
  rcases hn' with rfl | rfl | rfl | rfl | rfl | rfl <;> rcases hs' with rfl | rfl | rfl | rfl | rfl
  · exact .inl ⟨250, rfl, rfl⟩
  · exact .inr (.inl ⟨rfl, rfl, rfl⟩)
  · exact .inl ⟨250, rfl, rfl⟩
  · exact .inl ⟨250, rfl, rfl⟩
  · exact .inl ⟨250, rfl, rfl⟩
  · exact .inl ⟨250, rfl, rfl⟩
  · exact .inl ⟨250, rfl, rfl⟩
  · by_cases hm : ep = 1048576
    · subst hm; exact .inl ⟨290, rfl, rfl⟩
    · refine .inr (.inr (.inl ⟨rfl, rfl, by omega, ?_⟩))
      have e1 : (ep == 1048576) = false := by simpa using hm
      show (bif (bif ((3 : Int) == 3) then (ep == 1048576) else false) then _ else _) = _
      refine bif_eq_f (by rw [e1]; rfl) (bnd_eq (x := (ep + 1, f0, f1, f2, f3, f4, f5, f6, f7, f8, f9, l0, l1)) ?_ rfl)
      refine bif_eq_t rfl ?_
      rw [kw_i64 (by omega) (by omega)]
  · exact .inl ⟨250, rfl, rfl⟩
  · exact .inl ⟨250, rfl, rfl⟩
  · exact .inl ⟨250, rfl, rfl⟩
  · exact .inl ⟨250, rfl, rfl⟩
  · exact .inl ⟨250, rfl, rfl⟩
  · exact .inr (.inr (.inr (.inl ⟨rfl, rfl, rfl⟩)))
  · exact .inl ⟨250, rfl, rfl⟩
  · exact .inl ⟨250, rfl, rfl⟩
  · exact .inl ⟨250, rfl, rfl⟩
  · exact .inr (.inr (.inr (.inr (.inl ⟨rfl, rfl, rfl⟩))))
  · exact .inl ⟨250, rfl, rfl⟩
  · exact .inl ⟨250, rfl, rfl⟩
  · exact .inl ⟨250, rfl, rfl⟩
  · exact .inr (.inr (.inr (.inr (.inr (.inl ⟨rfl, .inl rfl, rfl⟩)))))
  · exact .inr (.inr (.inr (.inr (.inr (.inl ⟨rfl, .inr (.inl rfl), rfl⟩)))))
  · exact .inr (.inr (.inr (.inr (.inr (.inl ⟨rfl, .inr (.inr rfl), rfl⟩)))))
  · exact .inl ⟨250, rfl, rfl⟩
  · exact .inl ⟨250, rfl, rfl⟩
  · exact .inl ⟨250, rfl, rfl⟩
  · exact .inl ⟨250, rfl, rfl⟩
  · exact .inl ⟨250, rfl, rfl⟩
  · exact .inr (.inr (.inr (.inr (.inr (.inr (⟨rfl, rfl, rfl⟩))))))
theorem conf_w (A B : List Int) (hA : ∀ x ∈ A, 0 ≤ x ∧ x ≤ 255) (hB : ∀ x ∈ B, 0 ≤ x ∧ x ≤ 255) (st ep f0 f1 f2 f3 f4 f5 f6 f7 f8 f9 l0 l1 : Int) :
    (∃ e, (e == 0) = false ∧ stream_Stream_Configure 300 A B st ep f0 f1 f2 f3 f4 f5 f6 f7 f8 f9 l0 l1 = some (e, st, f0, f1, f2, f3, f4, f5, f6, f7, f8, f9, l0, l1)) ∨
    (∃ g0 g1 g2 g3 g4 g5 g6 g7 g8 g9 k0 k1 : Int, stream_Stream_Configure 300 A B st ep f0 f1 f2 f3 f4 f5 f6 f7 f8 f9 l0 l1 = some (0, 1, g0, g1, g2, g3, g4, g5, g6, g7, g8, g9, k0, k1) ∧ (st = 0 ∨ st = 1) ∧ Al A B g0 g1 g2 g3 g4 g5 g6 g7 g8 g9 k0 k1) := by
  rcases Bool.eq_false_or_eq_true (bif (st != 0) then (st != 1) else false) with c | c
  · exact .inl ⟨250, rfl, bif_eq_t c rfl⟩
  · obtain ⟨g0, g1, g2, g3, g4, g5, g6, g7, g8, g9, k0, k1, e, h1, h2⟩ := nego_w A B hA hB
    rcases Bool.eq_false_or_eq_true (e == 0) with d | d
    · have d' : e = 0 := by simpa using d
      subst d'
      refine .inr ⟨g0, g1, g2, g3, g4, g5, g6, g7, g8, g9, k0, k1, bif_eq_f c (bnd_eq h1 (bnd_eq (bif_eq_t rfl rfl) rfl)), ?_, h2 rfl⟩
      by_cases s0 : st = 0
      · exact .inl s0
      · right
        have e1 : (st != 0) = true := by simpa using s0
        rw [e1] at c
        simpa using c
    · exact .inl ⟨e, d, bif_eq_f c (bnd_eq h1 (bnd_eq (bif_eq_f d rfl) rfl))⟩
theorem second_w (a b : List Int) (r o s : Bool) (st ep f0 f1 f2 f3 f4 f5 f6 f7 f8 f9 l0 l1 e0 : Int) (h1 : (st == 3) = o) (h2 : s = true → ep = e0 + 1) (h3 : s = false → ep = e0) (he : 0 ≤ e0 ∧ e0 ≤ 1048576) (h4 : o = true → Al a b f0 f1 f2 f3 f4 f5 f6 f7 f8 f9 l0 l1) : (
        (
          (stream_Stream_State 300 st ep f0 f1 f2 f3 f4 f5 f6 f7 f8 f9 l0 l1).bind fun _ =>
          let v1299 := (!((st == 3) == o))
          bif v1299 then
            some true
          else
            bif s then
              (stream_Stream_Epoch 300 st ep f0 f1 f2 f3 f4 f5 f6 f7 f8 f9 l0 l1).bind fun _ =>
              let v1300 := (kwrap .i64 (e0 + 1))
              let v1301 := (ep != v1300)
              bif v1301 then
                some true
              else
                bif (!s) then
                  (stream_Stream_Epoch 300 st ep f0 f1 f2 f3 f4 f5 f6 f7 f8 f9 l0 l1).bind fun _ =>
                  let v1302 := (ep != e0)
                  some v1302
                else
                  some false
            else
              bif (!s) then
                (stream_Stream_Epoch 300 st ep f0 f1 f2 f3 f4 f5 f6 f7 f8 f9 l0 l1).bind fun _ =>
                let v1303 := (ep != e0)
                some v1303
              else
                some false : Option (Bool)).bind fun x1246 =>
          bif x1246 then
            some (.inr false)
          else
            bif o then
              (caps_Parse 300 a).bind fun (r1247, r1248, r1249, r1250, r1251, r1252, r1253, r1254, r1255, r1256, r1257, r1258, r1259, r1260, r1261, r1262) =>
              (caps_Parse 300 b).bind fun (r1263, r1264, r1265, r1266, r1267, r1268, r1269, r1270, r1271, r1272, r1273, r1274, r1275, r1276, r1277, r1278) =>
              (
                let v1286 := (bif (r1262 != 0) then true else (r1278 != 0))
                bif v1286 then
                  let v1288 := (bif v1286 then true else false)
                  bif v1288 then
                    let v1290 := (bif v1288 then true else false)
                    some v1290
                  else
                    (stream_Stream_Format 300 st ep f0 f1 f2 f3 f4 f5 f6 f7 f8 f9 l0 l1).bind fun _ =>
                    (stream_Stream_Link 300 st ep f0 f1 f2 f3 f4 f5 f6 f7 f8 f9 l0 l1).bind fun _ =>
                    (caps_Allows 300 r1263 r1264 r1265 r1266 r1267 r1268 r1269 r1270 r1271 r1272 r1273 r1274 r1275 r1276 r1277 f0 f1 f2 f3 f4 f5 f6 f7 f8 f9 l0 l1).bind fun r1291 =>
                    let v1292 := (bif v1288 then true else (!r1291))
                    some v1292
                else
                  (stream_Stream_Format 300 st ep f0 f1 f2 f3 f4 f5 f6 f7 f8 f9 l0 l1).bind fun _ =>
                  (stream_Stream_Link 300 st ep f0 f1 f2 f3 f4 f5 f6 f7 f8 f9 l0 l1).bind fun _ =>
                  (caps_Allows 300 r1247 r1248 r1249 r1250 r1251 r1252 r1253 r1254 r1255 r1256 r1257 r1258 r1259 r1260 r1261 f0 f1 f2 f3 f4 f5 f6 f7 f8 f9 l0 l1).bind fun r1293 =>
                  let v1294 := (bif v1286 then true else (!r1293))
                  bif v1294 then
                    let v1296 := (bif v1294 then true else false)
                    some v1296
                  else
                    (stream_Stream_Format 300 st ep f0 f1 f2 f3 f4 f5 f6 f7 f8 f9 l0 l1).bind fun _ =>
                    (stream_Stream_Link 300 st ep f0 f1 f2 f3 f4 f5 f6 f7 f8 f9 l0 l1).bind fun _ =>
                    (caps_Allows 300 r1263 r1264 r1265 r1266 r1267 r1268 r1269 r1270 r1271 r1272 r1273 r1274 r1275 r1276 r1277 f0 f1 f2 f3 f4 f5 f6 f7 f8 f9 l0 l1).bind fun r1297 =>
                    let v1298 := (bif v1294 then true else (!r1297))
                    some v1298 : Option (Bool)).bind fun x1285 =>
                bif x1285 then
                  some (.inr false)
                else
                  some (.inl (a, b, r, o, st, ep, f0, f1, f2, f3, f4, f5, f6, f7, f8, f9, l0, l1))
            else
              some (.inl (a, b, r, o, st, ep, f0, f1, f2, f3, f4, f5, f6, f7, f8, f9, l0, l1)) : Option (((List (Int)) × (List (Int)) × Bool × Bool × Int × Int × Int × Int × Int × Int × Int × Int × Int × Int × Int × Int × Int × Int) ⊕ (Bool))) = some (.inl (a, b, r, o, st, ep, f0, f1, f2, f3, f4, f5, f6, f7, f8, f9, l0, l1)) := by
  refine bnd_eq (x := false) ?_ (bif_eq_f rfl ?_)
  · refine bnd_eq rfl (bif_eq_f (by rw [h1]; cases o <;> rfl) ?_)
    cases s with
    | true =>
      refine bif_eq_t rfl (bnd_eq rfl (bif_eq_f ?_ (bif_eq_f rfl rfl)))
      rw [h2 rfl, kw_i64 (by omega) (by omega)]; simp
    | false =>
      refine bif_eq_f rfl (bif_eq_t rfl (bnd_eq rfl ?_))
      rw [h3 rfl]; simp
  · cases o with
    | false => exact bif_eq_f rfl rfl
    | true =>
      obtain ⟨p0, p1, p2, p3, p4, p5, p6, p7, p8, p9, p10, p11, p12, p13, p14, p15, p16, p17, p18, p19, p20, p21, p22, p23, p24, p25, p26, p27, p28, p29, k1, k2, k3, k4⟩ := h4 rfl
      refine bif_eq_t rfl (bnd_eq k1 (bnd_eq k2 (bnd_eq (x := false) ?_ (bif_eq_f rfl rfl))))
      exact bif_eq_f rfl (bnd_eq rfl (bnd_eq rfl (bnd_eq ((all_w p0 p1 p2 p3 p4 p5 p6 p7 p8 p9 p10 p11 p12 p13 p14 f0 f1 f2 f3 f4 f5 f6 f7 f8 f9 l0 l1).trans (by rw [k3])) (bif_eq_f rfl (bnd_eq rfl (bnd_eq rfl (bnd_eq ((all_w p15 p16 p17 p18 p19 p20 p21 p22 p23 p24 p25 p26 p27 p28 p29 f0 f1 f2 f3 f4 f5 f6 f7 f8 f9 l0 l1).trans (by rw [k4])) rfl)))))))
def Inv (a b : List Int) (r o : Bool) (st ep f0 f1 f2 f3 f4 f5 f6 f7 f8 f9 l0 l1 : Int) : Prop :=
  (0 ≤ ep ∧ ep ≤ 1048576) ∧ ((st = 2 ∧ r = true ∧ o = false) ∨ (st = 3 ∧ r = true ∧ o = true) ∨ ((st = 0 ∨ st = 1 ∨ st = 4) ∧ r = false ∧ o = false)) ∧ ((st = 1 ∨ st = 2 ∨ st = 3) → Al a b f0 f1 f2 f3 f4 f5 f6 f7 f8 f9 l0 l1)
theorem nth_mem {k : Kd} {l : List k.T} {i : Nat} (h : i < l.length) : k.nth l i ∈ l := by
  unfold Kd.nth
  rw [List.getD_eq_getElem?_getD, List.getElem?_eq_getElem h]; exact List.getElem_mem h
theorem inv_o {a b : List Int} {r o : Bool} {st ep f0 f1 f2 f3 f4 f5 f6 f7 f8 f9 l0 l1 : Int} (h : Inv a b r o st ep f0 f1 f2 f3 f4 f5 f6 f7 f8 f9 l0 l1) : (st == 3) = o := by
  obtain ⟨_, h, _⟩ := h
  rcases h with ⟨rfl, _, rfl⟩ | ⟨rfl, _, rfl⟩ | ⟨h, _, rfl⟩
  · rfl
  · rfl
  · rcases h with rfl | rfl | rfl <;> rfl
theorem inv_al {a b : List Int} {r o : Bool} {st ep f0 f1 f2 f3 f4 f5 f6 f7 f8 f9 l0 l1 : Int} (h : Inv a b r o st ep f0 f1 f2 f3 f4 f5 f6 f7 f8 f9 l0 l1) : o = true → Al a b f0 f1 f2 f3 f4 f5 f6 f7 f8 f9 l0 l1 := by
  intro ho
  obtain ⟨_, h, h'⟩ := h
  rcases h with ⟨_, _, e⟩ | ⟨e, _, _⟩ | ⟨_, _, e⟩
  · rw [ho] at e; cases e
  · exact h' (by omega)
  · rw [ho] at e; cases e
theorem only_l (L : List (Int × (List Int × List Int))) (hL : L.length ≤ 100) (hb : ∀ x ∈ L, (∀ y ∈ x.2.1, 0 ≤ y ∧ y ≤ 255) ∧ (∀ y ∈ x.2.2, 0 ≤ y ∧ y ≤ 255)) (k : Nat) : ∀ (m : Nat) (a b : List Int) (r o : Bool) (i st ep f0 f1 f2 f3 f4 f5 f6 f7 f8 f9 l0 l1 : Int), k < m → 0 ≤ i → i + k = (L.length : Int) → Inv a b r o st ep f0 f1 f2 f3 f4 f5 f6 f7 f8 f9 l0 l1 →
    psalterylaw25_StreamOnly.l0 300 L m a b r o i st ep f0 f1 f2 f3 f4 f5 f6 f7 f8 f9 l0 l1 = some (.inl ()) := by
  induction k with
  | zero =>
    intro m a b r o i st ep f0 f1 f2 f3 f4 f5 f6 f7 f8 f9 l0 l1 h h0 h1 _
    obtain ⟨m, rfl⟩ : ∃ q, m = q + 1 := ⟨m - 1, by omega⟩
    show psalterylaw25_StreamOnly.r0 300 L (psalterylaw25_StreamOnly.l0 300 L m) a b r o i st ep f0 f1 f2 f3 f4 f5 f6 f7 f8 f9 l0 l1 = _
    exact bif_eq_f (decide_eq_false (by omega)) rfl
  | succ k ih =>
    intro m a b r o i st ep f0 f1 f2 f3 f4 f5 f6 f7 f8 f9 l0 l1 h h0 h1 hI
    obtain ⟨m, rfl⟩ : ∃ q, m = q + 1 := ⟨m - 1, by omega⟩
    have hi : i < (L.length : Int) := by omega
    have hmem := hb _ (nth_mem (k := .pair (.int .i64) (.pair (.slice (.int .u8)) (.slice (.int .u8)))) (l := L) (i := i.toNat) (by omega))
    have hgd : (0 : Int) ≤ i ∧ i < (L.length : Int) := ⟨h0, hi⟩
    have hst : 0 ≤ st ∧ st ≤ 4 := by
      obtain ⟨_, h2, _⟩ := hI
      rcases h2 with ⟨q, _⟩ | ⟨q, _⟩ | ⟨q, _⟩ <;> omega
    have hep := hI.1
    show psalterylaw25_StreamOnly.r0 300 L (psalterylaw25_StreamOnly.l0 300 L m) a b r o i st ep f0 f1 f2 f3 f4 f5 f6 f7 f8 f9 l0 l1 = _
    refine bif_eq_t (decide_eq_true hi) ?_
    rcases Bool.eq_false_or_eq_true ((Kd.nth (.pair (.int .i64) (.pair (.slice (.int .u8)) (.slice (.int .u8)))) L (Int.toNat i)).1 == 0) with c | c
    · rcases conf_w _ _ hmem.1 hmem.2 st ep f0 f1 f2 f3 f4 f5 f6 f7 f8 f9 l0 l1 with ⟨e, he, hc⟩ | ⟨g0, g1, g2, g3, g4, g5, g6, g7, g8, g9, k0, k1, hc, hs, hal⟩
      · refine bnd_eq (bnd_eq rfl (gd_eq hgd (bnd_eq (bif_eq_t c (gd_eq hgd (gd_eq hgd (bnd_eq hc (bif_eq_f he rfl))))) (second_w a b r o false st ep f0 f1 f2 f3 f4 f5 f6 f7 f8 f9 l0 l1 ep (inv_o hI) (fun h => by cases h) (fun _ => rfl) hep (inv_al hI))))) ?_
        dsimp only
        rw [kw_i64 (by omega) (by omega)]
        exact ih m a b r o (i + 1) st ep f0 f1 f2 f3 f4 f5 f6 f7 f8 f9 l0 l1 (by omega) (by omega) (by omega) hI
      · have hI' : Inv (Kd.nth (.pair (.int .i64) (.pair (.slice (.int .u8)) (.slice (.int .u8)))) L (Int.toNat i)).2.1 (Kd.nth (.pair (.int .i64) (.pair (.slice (.int .u8)) (.slice (.int .u8)))) L (Int.toNat i)).2.2 false false 1 ep g0 g1 g2 g3 g4 g5 g6 g7 g8 g9 k0 k1 := ⟨hep, .inr (.inr ⟨.inr (.inl rfl), rfl, rfl⟩), fun _ => hal⟩
        refine bnd_eq (bnd_eq rfl (gd_eq hgd (bnd_eq (bif_eq_t c (gd_eq hgd (gd_eq hgd (bnd_eq hc (bif_eq_t rfl (gd_eq hgd (gd_eq hgd rfl))))))) (second_w _ _ false false false 1 ep g0 g1 g2 g3 g4 g5 g6 g7 g8 g9 k0 k1 ep (inv_o hI') (fun h => by cases h) (fun _ => rfl) hep (inv_al hI'))))) ?_
        dsimp only
        rw [kw_i64 (by omega) (by omega)]
        exact ih m _ _ false false (i + 1) 1 ep g0 g1 g2 g3 g4 g5 g6 g7 g8 g9 k0 k1 (by omega) (by omega) (by omega) hI'
    · obtain ⟨n, hn⟩ : ∃ n : Int, (Kd.nth (.pair (.int .i64) (.pair (.slice (.int .u8)) (.slice (.int .u8)))) L (Int.toNat i)).1 = n := ⟨_, rfl⟩
      rcases call_w (Kd.nth (.pair (.int .i64) (.pair (.slice (.int .u8)) (.slice (.int .u8)))) L (Int.toNat i)).1 st ep f0 f1 f2 f3 f4 f5 f6 f7 f8 f9 l0 l1 hst hep with ⟨e, he, hc⟩ | ⟨n1, s1, hc⟩ | ⟨n1, s1, lt, hc⟩ | ⟨n1, s1, hc⟩ | ⟨n1, s1, hc⟩ | ⟨n1, s1, hc⟩ | ⟨n1, s1, hc⟩
      · refine bnd_eq (bnd_eq rfl (gd_eq hgd (bnd_eq (bif_eq_f c (gd_eq hgd (bnd_eq hc (bif_eq_f he rfl)))) (second_w a b r o false st ep f0 f1 f2 f3 f4 f5 f6 f7 f8 f9 l0 l1 ep (inv_o hI) (fun h => by cases h) (fun _ => rfl) hep (inv_al hI))))) ?_
        dsimp only
        rw [kw_i64 (by omega) (by omega)]
        exact ih m a b r o (i + 1) st ep f0 f1 f2 f3 f4 f5 f6 f7 f8 f9 l0 l1 (by omega) (by omega) (by omega) hI
      · obtain ⟨h2, h3, h4⟩ := hI
        have hI' : Inv a b true o 2 ep f0 f1 f2 f3 f4 f5 f6 f7 f8 f9 l0 l1 := ⟨h2, .inl ⟨rfl, rfl, by rcases h3 with ⟨q, _, x⟩ | ⟨q, _, x⟩ | ⟨q, _, x⟩ <;> first | exact x | (exfalso; omega)⟩, fun _ => h4 (by omega)⟩
        refine bnd_eq (bnd_eq rfl (gd_eq hgd (bnd_eq (bif_eq_f c (gd_eq hgd (bnd_eq hc (bif_eq_t rfl (gd_eq hgd (bif_eq_t (by rw [n1]; rfl) rfl)))))) (second_w a b true o false 2 ep f0 f1 f2 f3 f4 f5 f6 f7 f8 f9 l0 l1 ep (inv_o hI') (fun h => by cases h) (fun h => rfl) hep (inv_al hI'))))) ?_
        dsimp only
        rw [kw_i64 (by omega) (by omega)]
        exact ih m a b true o (i + 1) 2 ep f0 f1 f2 f3 f4 f5 f6 f7 f8 f9 l0 l1 (by omega) (by omega) (by omega) hI'
      · obtain ⟨h2, h3, h4⟩ := hI
        have hr : r = true ∧ o = false := by
          rcases h3 with ⟨q, x1, x2⟩ | ⟨q, x1, x2⟩ | ⟨q, x1, x2⟩ <;> first | exact ⟨x1, x2⟩ | (exfalso; omega)
        obtain ⟨rfl, rfl⟩ := hr
        have hI' : Inv a b true true 3 (ep + 1) f0 f1 f2 f3 f4 f5 f6 f7 f8 f9 l0 l1 := ⟨by omega, .inr (.inl ⟨rfl, rfl, rfl⟩), fun _ => h4 (by omega)⟩
        refine bnd_eq (bnd_eq rfl (gd_eq hgd (bnd_eq (bif_eq_f c (gd_eq hgd (bnd_eq hc (bif_eq_t rfl (gd_eq hgd (bif_eq_f (by rw [n1]; rfl) (bif_eq_t (by rw [n1]; rfl) (bif_eq_f rfl rfl)))))))) (second_w a b true true true 3 (ep + 1) f0 f1 f2 f3 f4 f5 f6 f7 f8 f9 l0 l1 ep (inv_o hI') (fun h => rfl) (fun h => by cases h) hep (inv_al hI'))))) ?_
        dsimp only
        rw [kw_i64 (by omega) (by omega)]
        exact ih m a b true true (i + 1) 3 (ep + 1) f0 f1 f2 f3 f4 f5 f6 f7 f8 f9 l0 l1 (by omega) (by omega) (by omega) hI'
      · obtain ⟨h2, h3, h4⟩ := hI
        have hr : r = true ∧ o = true := by
          rcases h3 with ⟨q, x1, x2⟩ | ⟨q, x1, x2⟩ | ⟨q, x1, x2⟩ <;> first | exact ⟨x1, x2⟩ | (exfalso; omega)
        obtain ⟨rfl, rfl⟩ := hr
        have hI' : Inv a b true false 2 ep f0 f1 f2 f3 f4 f5 f6 f7 f8 f9 l0 l1 := ⟨h2, .inl ⟨rfl, rfl, rfl⟩, fun _ => h4 (by omega)⟩
        refine bnd_eq (bnd_eq rfl (gd_eq hgd (bnd_eq (bif_eq_f c (gd_eq hgd (bnd_eq hc (bif_eq_t rfl (gd_eq hgd (bif_eq_f (by rw [n1]; rfl) (bif_eq_f (by rw [n1]; rfl) (bif_eq_t (by rw [n1]; rfl) rfl)))))))) (second_w a b true false false 2 ep f0 f1 f2 f3 f4 f5 f6 f7 f8 f9 l0 l1 ep (inv_o hI') (fun h => by cases h) (fun h => rfl) hep (inv_al hI'))))) ?_
        dsimp only
        rw [kw_i64 (by omega) (by omega)]
        exact ih m a b true false (i + 1) 2 ep f0 f1 f2 f3 f4 f5 f6 f7 f8 f9 l0 l1 (by omega) (by omega) (by omega) hI'
      · obtain ⟨h2, h3, h4⟩ := hI
        have hI' : Inv a b false false 1 ep f0 f1 f2 f3 f4 f5 f6 f7 f8 f9 l0 l1 := ⟨h2, .inr (.inr ⟨.inr (.inl rfl), rfl, rfl⟩), fun _ => h4 (by omega)⟩
        refine bnd_eq (bnd_eq rfl (gd_eq hgd (bnd_eq (bif_eq_f c (gd_eq hgd (bnd_eq hc (bif_eq_t rfl (gd_eq hgd (bif_eq_f (by rw [n1]; rfl) (bif_eq_f (by rw [n1]; rfl) (bif_eq_f (by rw [n1]; rfl) rfl)))))))) (second_w a b false false false 1 ep f0 f1 f2 f3 f4 f5 f6 f7 f8 f9 l0 l1 ep (inv_o hI') (fun h => by cases h) (fun h => rfl) hep (inv_al hI'))))) ?_
        dsimp only
        rw [kw_i64 (by omega) (by omega)]
        exact ih m a b false false (i + 1) 1 ep f0 f1 f2 f3 f4 f5 f6 f7 f8 f9 l0 l1 (by omega) (by omega) (by omega) hI'
      · obtain ⟨h2, h3, h4⟩ := hI
        have hI' : Inv a b false false 4 ep f0 f1 f2 f3 f4 f5 f6 f7 f8 f9 l0 l1 := ⟨h2, .inr (.inr ⟨.inr (.inr rfl), rfl, rfl⟩), fun h => by omega⟩
        refine bnd_eq (bnd_eq rfl (gd_eq hgd (bnd_eq (bif_eq_f c (gd_eq hgd (bnd_eq hc (bif_eq_t rfl (gd_eq hgd (bif_eq_f (by rw [n1]; rfl) (bif_eq_f (by rw [n1]; rfl) (bif_eq_f (by rw [n1]; rfl) rfl)))))))) (second_w a b false false false 4 ep f0 f1 f2 f3 f4 f5 f6 f7 f8 f9 l0 l1 ep (inv_o hI') (fun h => by cases h) (fun h => rfl) hep (inv_al hI'))))) ?_
        dsimp only
        rw [kw_i64 (by omega) (by omega)]
        exact ih m a b false false (i + 1) 4 ep f0 f1 f2 f3 f4 f5 f6 f7 f8 f9 l0 l1 (by omega) (by omega) (by omega) hI'
      · obtain ⟨h2, h3, h4⟩ := hI
        have hI' : Inv a b false false 0 ep 0 0 0 0 0 0 0 0 0 0 0 0 := ⟨h2, .inr (.inr ⟨.inl rfl, rfl, rfl⟩), fun h => by omega⟩
        refine bnd_eq (bnd_eq rfl (gd_eq hgd (bnd_eq (bif_eq_f c (gd_eq hgd (bnd_eq hc (bif_eq_t rfl (gd_eq hgd (bif_eq_f (by rw [n1]; rfl) (bif_eq_f (by rw [n1]; rfl) (bif_eq_f (by rw [n1]; rfl) rfl)))))))) (second_w a b false false false 0 ep 0 0 0 0 0 0 0 0 0 0 0 0 ep (inv_o hI') (fun h => by cases h) (fun h => rfl) hep (inv_al hI'))))) ?_
        dsimp only
        rw [kw_i64 (by omega) (by omega)]
        exact ih m a b false false (i + 1) 0 ep 0 0 0 0 0 0 0 0 0 0 0 0 (by omega) (by omega) (by omega) hI'
theorem only25 (L : List (Int × (List Int × List Int))) (hb : ∀ x ∈ L, (∀ y ∈ x.2.1, 0 ≤ y ∧ y ≤ 255) ∧ (∀ y ∈ x.2.2, 0 ≤ y ∧ y ≤ 255)) : psalterylaw25_StreamOnly 300 L = some true := by
  refine bnd_eq al25 (bif_eq_f rfl ?_)
  rcases far_w L with h | ⟨h, hl⟩
  · exact bnd_eq h (bif_eq_t rfl rfl)
  · refine bnd_eq h (bif_eq_f rfl (bnd_eq rfl (bnd_eq (only_l L hl hb L.length 300 [] [] false false 0 0 0 0 0 0 0 0 0 0 0 0 0 0 0 (by omega) (by omega) (by omega) ⟨⟨by decide, by decide⟩, .inr (.inr ⟨.inl rfl, rfl, rfl⟩), fun h => by omega⟩) rfl)))
end Go.Fo
