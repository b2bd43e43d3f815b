/- The symbolic states of this proof's own engine: values, objects, and what they say of memory. -/
import Derived.Calls
import Derived.Orders
import Derived.Tactics
namespace Go.Fo

/-- Memory that is no longer written: a part of the heap. -/
abbrev Mem := Nat → Option Obj
def Mle (m m' : Mem) : Prop := ∀ b o, m b = some o → m' b = some o
theorem Mle.refl (m : Mem) : Mle m m := fun _ _ h => h
theorem Mle.trans {a b c : Mem} (h : Mle a b) (k : Mle b c) : Mle a c := fun x o e => k x o (h x o e)

/-- Kinds of data that are told by their contents. -/
inductive Kd where
  | int (k : IntKind) | bool | str | slice (e : Kd) | pair (a b : Kd) | unit
  deriving DecidableEq
@[reducible] def Kd.T : Kd → Type
  | .int _ => Int | .bool => Bool | .str => ByteArray | .slice e => List e.T | .pair a b => a.T × b.T | .unit => Unit
def Kd.n : Kd → Nat
  | .int _ => 1 | .bool => 1 | .str => 1 | .slice _ => 1 | .pair a b => a.n + b.n | .unit => 0

/-- a slice's value tells a list, in memory that is no longer written -/
def SlR {α : Type} (m : Mem) (sz : Nat) (R : α → List Value → Prop) (l : List α) (v : Value) : Prop :=
  (∃ a, v = .slice a 0 0 ∧ l = []) ∨ ∃ b off cap cells T fr, v = .slice (some ⟨b, off, none⟩) l.length cap ∧ l.length ≤ cap ∧
    m b = some (.cells cells T fr) ∧ off + l.length * sz ≤ cells.size ∧ ∀ i (h : i < l.length), R l[i] ((cells.toList.drop (off + i * sz)).take sz)

def Kd.R (m : Mem) : (k : Kd) → k.T → List Value → Prop
  | .int k, x, cs => cs = [.int k x]
  | .bool, x, cs => cs = [.bool x]
  | .str, x, cs => cs = [.string x]
  | .slice e, l, cs => ∃ v, cs = [v] ∧ SlR m e.n (e.R m) l v
  | .pair a b, x, cs => ∃ c d, cs = c ++ d ∧ a.R m x.1 c ∧ b.R m x.2 d
  | .unit, _, cs => cs = []

theorem SlR.mono {α : Type} {m m' : Mem} (h : Mle m m') {sz : Nat} {R R' : α → List Value → Prop} (hr : ∀ x cs, R x cs → R' x cs) {l : List α} {v : Value} (k : SlR m sz R l v) : SlR m' sz R' l v := by
  rcases k with k | ⟨b, off, cap, cells, T, fr, h1, h2, h3, h4, h5⟩
  · exact .inl k
  · exact .inr ⟨b, off, cap, cells, T, fr, h1, h2, h _ _ h3, h4, fun i hi => hr _ _ (h5 i hi)⟩

theorem Kd.R.mono {m m' : Mem} (h : Mle m m') : ∀ (k : Kd) (x : k.T) (cs : List Value), k.R m x cs → k.R m' x cs
  | .int _, _, _, r => r
  | .bool, _, _, r => r
  | .str, _, _, r => r
  | .slice e, _, _, ⟨v, hv, r⟩ => ⟨v, hv, SlR.mono h (fun x cs => Kd.R.mono h e x cs) r⟩
  | .pair a b, x, _, ⟨c, d, e, r, s⟩ => ⟨c, d, e, Kd.R.mono h a x.1 c r, Kd.R.mono h b x.2 d s⟩
  | .unit, _, _, r => r

theorem Kd.R.len {m : Mem} : ∀ (k : Kd) (x : k.T) (cs : List Value), k.R m x cs → cs.length = k.n
  | .int _, _, _, r => by rw [r]; rfl
  | .bool, _, _, r => by rw [r]; rfl
  | .str, _, _, r => by rw [r]; rfl
  | .slice e, _, _, ⟨v, hv, _⟩ => by rw [hv]; rfl
  | .pair a b, x, _, ⟨c, d, e, r, s⟩ => by rw [e, List.length_append, Kd.R.len a _ _ r, Kd.R.len b _ _ s]; rfl
  | .unit, _, _, r => by rw [r]; rfl

/-- A symbolic value. -/
inductive MV where
  | int (k : IntKind) (x : Int) | bool (b : Bool) | str (s : ByteArray)
  | nilp | nils | nilf | nili | nilm
  | p (key off : Nat)
  | pe (key i f : Nat)
  | im (k : Kd) (x : k.T)
  | pim (k : Kd) (x : k.T)
  | sl (key : Nat)
  | hd (key n : Nat)
  | sv (key lo : Nat)
  | pf (key o j : Nat)
  | agg (l : List MV) | tup (l : List MV)
  | fn (f : FuncId) (l : List MV)
  | ifc (t : TypeId) (x : MV)
  | cnd (t : Bool) (x : MV)
  | raw (v : Value)
instance : Inhabited MV := ⟨.nilp⟩

/-- What a key stands for: a block; for a slice of its own: its header. -/
structure Hd where
  blk : Nat
  len : Nat
  cap : Nat
  nil : Bool
  sz : Nat
def Hd.hdr (h : Hd) : Value := if h.nil then .slice none 0 0 else .slice (some ⟨h.blk, 0, none⟩) h.len h.cap

mutual
def Cv (ρ : Nat → Hd) (m : Mem) : MV → Value → Prop
  | .int k x, v => v = .int k x
  | .bool b, v => v = .bool b
  | .str s, v => v = .string s
  | .nilp, v => v = .pointer none
  | .nils, v => v = .slice none 0 0
  | .nilf, v => v = .nilFunc
  | .nili, v => v = .nilIface
  | .nilm, v => v = .map none
  | .p key off, v => v = .pointer (some ⟨(ρ key).blk, off, none⟩)
  | .pe key i f, v => v = .pointer (some ⟨(ρ key).blk, i * (ρ key).sz + f, none⟩)
  | .im k x, v => k.R m x [v]
  | .pim k x, v => ∃ b off cells T fr, v = .pointer (some ⟨b, off, none⟩) ∧ m b = some (.cells cells T fr) ∧ off + k.n ≤ cells.size ∧ k.R m x ((cells.toList.drop off).take k.n)
  | .sl key, v => v = (ρ key).hdr
  | .hd key n, v => v = .slice (some ⟨(ρ key).blk, 0, none⟩) n n
  | .sv key lo, v => v = .slice (some ⟨(ρ key).blk, lo * (ρ key).sz, none⟩) ((ρ key).len - lo) ((ρ key).cap - lo)
  | .pf key o j, v => v = .pointer (some ⟨(ρ key).blk, o + j, none⟩)
  | .agg l, v => ∃ vs : List Value, v = .agg vs.toArray ∧ CvL ρ m l vs
  | .tup l, v => ∃ vs : List Value, v = .tuple vs.toArray ∧ CvL ρ m l vs
  | .fn f l, v => ∃ vs : List Value, v = .func (.func f) #[] vs.toArray ∧ CvL ρ m l vs
  | .ifc t x, v => ∃ y, v = .iface t y ∧ Cv ρ m x y
  | .cnd t x, v => (t = true → Cv ρ m x v) ∧ (t = false → v = .tuple #[])
  | .raw u, v => v = u
def CvL (ρ : Nat → Hd) (m : Mem) : List MV → List Value → Prop
  | [], vs => vs = []
  | x :: l, vs => ∃ v us, vs = v :: us ∧ Cv ρ m x v ∧ CvL ρ m l us
end

-- the keys that a value mentions
mutual
def MV.has (d : Nat) : MV → Bool
  | .p k _ => k == d
  | .pe k _ _ => k == d
  | .sl k => k == d
  | .hd k _ => k == d
  | .sv k _ => k == d
  | .pf k _ _ => k == d
  | .agg l => MV.hasL d l
  | .tup l => MV.hasL d l
  | .fn _ l => MV.hasL d l
  | .ifc _ x => x.has d
  | .cnd _ x => x.has d
  | _ => false
def MV.hasL (d : Nat) : List MV → Bool
  | [] => false
  | x :: l => x.has d || MV.hasL d l
end

mutual
theorem Cv.mono {ρ ρ' : Nat → Hd} {m m' : Mem} (h : Mle m m') : ∀ (x : MV) (v : Value), (∀ d, x.has d = true → ρ' d = ρ d) → Cv ρ m x v → Cv ρ' m' x v
  | .int _ _, _, _, r => r
  | .bool _, _, _, r => r
  | .str _, _, _, r => r
  | .nilp, _, _, r => r
  | .nils, _, _, r => r
  | .nilf, _, _, r => r
  | .nili, _, _, r => r
  | .nilm, _, _, r => r
  | .p k off, _, e, r => by
    have := e k (by simp [MV.has]); simp only [Cv] at r ⊢; rw [this]; exact r
  | .pe k i f, _, e, r => by
    have := e k (by simp [MV.has]); simp only [Cv] at r ⊢; rw [this]; exact r
  | .im k x, _, _, r => Kd.R.mono h k x _ r
  | .pim k x, _, _, ⟨b, off, cells, T, fr, h1, h2, h3, h4⟩ => ⟨b, off, cells, T, fr, h1, h _ _ h2, h3, Kd.R.mono h k x _ h4⟩
  | .sl k, _, e, r => by
    have := e k (by simp [MV.has]); simp only [Cv] at r ⊢; rw [this]; exact r
  | .hd k _, _, e, r => by
    have := e k (by simp [MV.has]); simp only [Cv] at r ⊢; rw [this]; exact r
  | .sv k _, _, e, r => by
    have := e k (by simp [MV.has]); simp only [Cv] at r ⊢; rw [this]; exact r
  | .pf k _ _, _, e, r => by
    have := e k (by simp [MV.has]); simp only [Cv] at r ⊢; rw [this]; exact r
  | .agg l, _, e, ⟨vs, hv, r⟩ => ⟨vs, hv, CvL.mono h l vs (fun d hd => e d (by simpa [MV.has] using hd)) r⟩
  | .tup l, _, e, ⟨vs, hv, r⟩ => ⟨vs, hv, CvL.mono h l vs (fun d hd => e d (by simpa [MV.has] using hd)) r⟩
  | .fn f l, _, e, ⟨vs, hv, r⟩ => ⟨vs, hv, CvL.mono h l vs (fun d hd => e d (by simpa [MV.has] using hd)) r⟩
  | .ifc t x, _, e, ⟨y, hv, r⟩ => ⟨y, hv, Cv.mono h x y (fun d hd => e d (by simpa [MV.has] using hd)) r⟩
  | .cnd t x, v, e, r => ⟨fun ht => Cv.mono h x v (fun d hd => e d (by simpa [MV.has] using hd)) (r.1 ht), r.2⟩
  | .raw _, _, _, r => r
theorem CvL.mono {ρ ρ' : Nat → Hd} {m m' : Mem} (h : Mle m m') : ∀ (l : List MV) (vs : List Value), (∀ d, MV.hasL d l = true → ρ' d = ρ d) → CvL ρ m l vs → CvL ρ' m' l vs
  | [], _, _, r => r
  | x :: l, _, e, ⟨v, us, hv, r, s⟩ => ⟨v, us, hv, Cv.mono h x v (fun d hd => e d (by simp [MV.hasL, hd])) r, CvL.mono h l us (fun d hd => e d (by simp [MV.hasL, hd])) s⟩
end

theorem CvL.length {ρ : Nat → Hd} {m : Mem} : ∀ {l : List MV} {vs : List Value}, CvL ρ m l vs → vs.length = l.length
  | [], _, h => by rw [h]; rfl
  | _ :: l, _, ⟨_, us, h, _, r⟩ => by rw [h, List.length_cons, List.length_cons, CvL.length r]

theorem CvL.get {ρ : Nat → Hd} {m : Mem} : ∀ {l : List MV} {vs : List Value}, CvL ρ m l vs → ∀ (i : Nat) (x : MV), l[i]? = some x → ∃ v, vs[i]? = some v ∧ Cv ρ m x v
  | [], _, _, i, x, hx => by simp at hx
  | y :: l, _, ⟨v, us, h, r, s⟩, 0, x, hx => by simp at hx; subst hx; subst h; exact ⟨v, rfl, r⟩
  | y :: l, _, ⟨v, us, h, r, s⟩, i + 1, x, hx => by
    subst h; simp at hx; obtain ⟨u, hu, hc⟩ := CvL.get s i x hx; exact ⟨u, by simpa using hu, hc⟩

theorem CvL.append {ρ : Nat → Hd} {m : Mem} : ∀ {l l' : List MV} {vs vs' : List Value}, CvL ρ m l vs → CvL ρ m l' vs' → CvL ρ m (l ++ l') (vs ++ vs')
  | [], _, _, _, h, k => by rw [h]; exact k
  | x :: l, _, _, _, ⟨v, us, h, r, s⟩, k => ⟨v, us ++ _, by rw [h]; rfl, r, CvL.append s k⟩

theorem CvL.drop {ρ : Nat → Hd} {m : Mem} : ∀ {l : List MV} {vs : List Value} (n : Nat), CvL ρ m l vs → CvL ρ m (l.drop n) (vs.drop n)
  | [], _, n, h => by rw [h]; simp [CvL]
  | x :: l, _, 0, h => by simpa using h
  | x :: l, _, n + 1, ⟨v, us, h, r, s⟩ => by rw [h]; simpa using CvL.drop n s

theorem CvL.take {ρ : Nat → Hd} {m : Mem} : ∀ {l : List MV} {vs : List Value} (n : Nat), CvL ρ m l vs → CvL ρ m (l.take n) (vs.take n)
  | [], _, n, h => by rw [h]; simp [CvL]
  | x :: l, _, 0, h => by simp [CvL]
  | x :: l, _, n + 1, ⟨v, us, h, r, s⟩ => by rw [h]; simp only [List.take_succ_cons]; exact ⟨v, _, rfl, r, CvL.take n s⟩

theorem CvL.set {ρ : Nat → Hd} {m : Mem} {x : MV} {v : Value} (hv : Cv ρ m x v) : ∀ {l : List MV} {vs : List Value} (n : Nat), CvL ρ m l vs → CvL ρ m (l.set n x) (vs.set n v)
  | [], _, n, h => by rw [h]; simp [CvL]
  | y :: l, _, 0, ⟨u, us, h, r, s⟩ => by rw [h]; exact ⟨v, us, rfl, hv, s⟩
  | y :: l, _, n + 1, ⟨u, us, h, r, s⟩ => by rw [h]; exact ⟨u, _, rfl, r, CvL.set hv n s⟩

/-- An object that is told by a relation of one's own: no keys in it. -/
structure Abs where
  R : Mem → List Value → Prop
  mono : ∀ {m m' : Mem}, Mle m m' → ∀ vs, R m vs → R m' vs

/-- An object: a block of so many cells; or a slice of its own; or a block of one's own telling. -/
inductive MObj where
  | cells (cs : List MV)
  | rows (k : Kd) (xs : List k.T)
  | ab (a : Abs)
  | foc (pre cs post : List MV)

def MObj.has (d : Nat) : MObj → Bool
  | .cells cs => MV.hasL d cs
  | .rows _ _ => false
  | .ab _ => false
  | .foc _ cs _ => MV.hasL d cs

def osat (ρ : Nat → Hd) (m : Mem) (w : World) (key : Nat) : MObj → Prop
  | .cells cs => (ρ key).nil = false ∧ ∃ vs T, w.heap[(ρ key).blk]? = some (.cells (List.toArray vs) T (0, 0)) ∧ CvL ρ m cs vs
  | .rows k xs => (ρ key).len = xs.length ∧ (ρ key).sz = k.n ∧ ((ρ key).nil = true ∧ xs = [] ∨
      (ρ key).nil = false ∧ xs.length ≤ (ρ key).cap ∧ ∃ vs T, w.heap[(ρ key).blk]? = some (.cells (List.toArray vs) T (0, 0)) ∧ vs.length = (ρ key).cap * k.n ∧
        ∀ i (h : i < xs.length), k.R m xs[i] ((vs.drop (i * k.n)).take k.n))
  | .ab a => (ρ key).nil = false ∧ ∃ vs T, w.heap[(ρ key).blk]? = some (.cells (List.toArray vs) T (0, 0)) ∧ a.R m vs
  | .foc pre cs post => (ρ key).nil = false ∧ ∃ v1 v2 v3 T, w.heap[(ρ key).blk]? = some (.cells (List.toArray (v1 ++ (v2 ++ v3))) T (0, 0)) ∧ CvL (fun _ => ⟨0, 0, 0, false, 0⟩) m pre v1 ∧ CvL ρ m cs v2 ∧ CvL (fun _ => ⟨0, 0, 0, false, 0⟩) m post v3

/-- the block that an object is -/
def foot (ρ : Nat → Hd) (key b : Nat) : Prop := (ρ key).nil = false ∧ b = (ρ key).blk

theorem osat.mono {ρ ρ' : Nat → Hd} {m m' : Mem} {w w' : World} (h : Mle m m') {key : Nat} : ∀ {o : MObj}, (∀ d, o.has d = true → ρ' d = ρ d) → ρ' key = ρ key →
    (∀ b, foot ρ key b → w'.heap[b]? = w.heap[b]?) → osat ρ m w key o → osat ρ' m' w' key o
  | .cells cs, e, ek, hw, ⟨hn, vs, T, h1, h2⟩ => by
    refine ⟨by rw [ek]; exact hn, vs, T, ?_, CvL.mono h cs vs e h2⟩
    rw [ek, hw _ ⟨hn, rfl⟩]; exact h1
  | .rows k xs, e, ek, hw, ⟨h1, h2, h3⟩ => by
    refine ⟨by rw [ek]; exact h1, by rw [ek]; exact h2, ?_⟩
    rw [ek]
    rcases h3 with h3 | ⟨hn, hc, vs, T, g1, g2, g3⟩
    · exact .inl h3
    · exact .inr ⟨hn, hc, vs, T, by rw [hw _ ⟨hn, rfl⟩]; exact g1, g2, fun i hi => Kd.R.mono h k _ _ (g3 i hi)⟩
  | .ab a, _, ek, hw, ⟨hn, vs, T, h1, h2⟩ => by
    refine ⟨by rw [ek]; exact hn, vs, T, ?_, a.mono h vs h2⟩
    rw [ek, hw _ ⟨hn, rfl⟩]; exact h1
  | .foc pre cs post, e, ek, hw, ⟨hn, v1, v2, v3, T, h1, h2, h3, h4⟩ => by
    refine ⟨by rw [ek]; exact hn, v1, v2, v3, T, ?_, CvL.mono h pre v1 (fun _ _ => rfl) h2, CvL.mono h cs v2 e h3, CvL.mono h post v3 (fun _ _ => rfl) h4⟩
    rw [ek, hw _ ⟨hn, rfl⟩]; exact h1

/-- What is known of memory: what is no longer written, the objects, and blocks that are another's. -/
structure Hp (X : Nat → Prop) (ρ : Nat → Hd) (m : Mem) (L : Nat → Option MObj) (w : World) : Prop where
  mem : ∀ b o, m b = some o → w.heap[b]? = some o
  obj : ∀ k o, L k = some o → osat ρ m w k o
  dj : ∀ k o k' o' b, L k = some o → L k' = some o' → foot ρ k b → foot ρ k' b → k = k'
  djm : ∀ k o b, L k = some o → foot ρ k b → m b = none
  djX : ∀ k o b, L k = some o → foot ρ k b → ¬ X b
  lt : ∀ b, X b → b < w.heap.size

/-- What a stretch of the run does to memory. -/
structure Nx (X : Nat → Prop) (m m' : Mem) (w w' : World) : Prop where
  le : Mle m m'
  nm : ∀ b, X b → m' b = m b
  un : ∀ b, X b → w'.heap[b]? = w.heap[b]?
  size : w.heap.size ≤ w'.heap.size
  os : w'.os = w.os
  out : w'.output = w.output
  tape : w'.tape = w.tape

theorem Nx.refl (X : Nat → Prop) (m : Mem) (w : World) : Nx X m m w w := ⟨Mle.refl m, fun _ _ => rfl, fun _ _ => rfl, Nat.le_refl _, rfl, rfl, rfl⟩
theorem Nx.trans {X : Nat → Prop} {m m' m'' : Mem} {w w' w'' : World} (h : Nx X m m' w w') (k : Nx X m' m'' w' w'') : Nx X m m'' w w'' :=
  ⟨h.le.trans k.le, fun b hb => (k.nm b hb).trans (h.nm b hb), fun b hb => (k.un b hb).trans (h.un b hb), Nat.le_trans h.size k.size, k.os.trans h.os, k.out.trans h.out, k.tape.trans h.tape⟩

theorem foot_lt {X : Nat → Prop} {ρ : Nat → Hd} {m : Mem} {L : Nat → Option MObj} {w : World} (h : Hp X ρ m L w) {k : Nat} {o : MObj} {b : Nat} (hk : L k = some o) (hf : foot ρ k b) : b < w.heap.size := by
  have ho := h.obj k o hk
  have key : ∀ x, w.heap[b]? = some x → b < w.heap.size := fun x hx => (Array.getElem?_eq_some_iff.1 hx).1
  obtain ⟨hn, rfl⟩ := hf
  cases o with
  | cells cs => obtain ⟨_, vs, T, h1, _⟩ := ho; exact key _ h1
  | ab a => obtain ⟨_, vs, T, h1, _⟩ := ho; exact key _ h1
  | foc pre cs post => obtain ⟨_, v1, v2, v3, T, h1, _⟩ := ho; exact key _ h1
  | rows k xs =>
    obtain ⟨_, _, h3⟩ := ho
    rcases h3 with ⟨h3, _⟩ | ⟨_, _, vs, T, g1, _⟩
    · rw [hn] at h3; cases h3
    · exact key _ g1

theorem mem_lt {X : Nat → Prop} {ρ : Nat → Hd} {m : Mem} {L : Nat → Option MObj} {w : World} (h : Hp X ρ m L w) {b : Nat} {o : Obj} (hb : m b = some o) : b < w.heap.size :=
  (Array.getElem?_eq_some_iff.1 (h.mem b o hb)).1

/-- association lists, the first entry of a key counts -/
def get {α : Type} : List (Nat × α) → Nat → Option α
  | [], _ => none
  | (k, v) :: l, s => if k == s then some v else get l s
def getO {α : Type} : List (Nat × Option α) → Nat → Option α
  | [], _ => none
  | (k, v) :: l, s => if k == s then v else getO l s

@[go_sem] theorem get_cons {α : Type} (k : Nat) (v : α) (l : List (Nat × α)) (s : Nat) : get ((k, v) :: l) s = if k == s then some v else get l s := rfl
@[go_sem] theorem get_nil {α : Type} (s : Nat) : get ([] : List (Nat × α)) s = none := rfl

/-- The ground on which a function's body runs: other's blocks, the keys and memory that it began with. -/
structure Gd where
  X : Nat → Prop
  ρ0 : Nat → Hd
  m0 : Mem
  w0 : World

/-- A frame and a world meet a symbolic state. -/
def Sat (Γ : Gd) (N : Nat) (A : Nat → Option MV) (L : Nat → Option MObj) (a : Act) (w : World) : Prop :=
  a.tmps.size = N ∧ a.defers = [] ∧ ∃ ρ m, (∀ s x, A s = some x → ∃ v, a.tmps[s]? = some v ∧ Cv ρ m x v) ∧ Hp Γ.X ρ m L w ∧ Nx Γ.X Γ.m0 m Γ.w0 w ∧ ∀ k, k < 1000 → ρ k = Γ.ρ0 k

theorem Sat.weak {Γ : Gd} {N : Nat} {A A' : Nat → Option MV} {L L' : Nat → Option MObj} {a : Act} {w : World} (h : Sat Γ N A L a w)
    (hA : ∀ s x, A' s = some x → A s = some x) (hL : ∀ s x, L' s = some x → L s = some x) : Sat Γ N A' L' a w := by
  obtain ⟨h1, h2, ρ, m, h3, h4, h5, h6⟩ := h
  exact ⟨h1, h2, ρ, m, fun s x hs => h3 s x (hA s x hs), ⟨h4.mem, fun k o hk => h4.obj k o (hL k o hk), fun k o k' o' b hk hk' => h4.dj k o k' o' b (hL _ _ hk) (hL _ _ hk'),
    fun k o b hk => h4.djm k o b (hL _ _ hk), fun k o b hk => h4.djX k o b (hL _ _ hk), h4.lt⟩, h5, h6⟩

/-- What a call does: from these arguments and objects to this result and these objects. -/
def Fn (P : Program) (f : FuncId) (args : List MV) (L : List (Nat × Option MObj)) (res : MV) (L' : List (Nat × Option MObj)) : Prop :=
  ∀ (X : Nat → Prop) (ρ : Nat → Hd) (m : Mem) (w : World) (vs : List Value), Hp X ρ m (getO L) w → CvL ρ m args vs →
    Calls P f vs.toArray w fun e w' => ∃ ρ' m' v, e = .returned v ∧ Cv ρ' m' res v ∧ Hp X ρ' m' (getO L') w' ∧ Nx X m m' w w' ∧ ∀ k, k < 1000 → ρ' k = ρ k

end Go.Fo
