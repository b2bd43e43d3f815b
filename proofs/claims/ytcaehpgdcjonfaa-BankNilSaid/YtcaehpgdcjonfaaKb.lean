/- The pure operations on symbolic values: an evaluator, and that what it tells is what the machine does. -/
import Derived.Test.YtcaehpgdcjonfaaKa
import Derived.KernelRfl
namespace Go.Fo

/-- What the evaluator is told of a type. -/
structure TI where
  agg : Bool
  size : Nat
  bytes : Nat := 0
  zero : List MV := []
  fields : List (Nat × Nat × Bool) := []
  elem : Nat := 0
  esz : Nat := 0
  alen : Nat := 0
  eagg : Bool := false
  ik : Option IntKind := none
  arr : Bool := false
  slc : Bool := false
  tag : Nat := 0
  eqf : Bool := false
  ek : Option Kd := none
  eb : Nat := 0
instance : Inhabited TI := ⟨{ agg := false, size := 0 }⟩

def isAggD : TypeDesc → Bool
  | .struct _ => true
  | .array _ _ => true
  | _ => false
/-- the same literal, as a symbolic value and as a value -/
def zeq : MV → Value → Bool
  | .int k x, .int k' y => k == k' && x == y
  | .bool b, .bool c => b == c
  | .str s, .string t => s.data.toList.isEmpty && t.data.toList.isEmpty
  | .nilp, .pointer none => true
  | .nils, .slice none 0 0 => true
  | .nilf, .nilFunc => true
  | .nili, .nilIface => true
  | .nilm, .map none => true
  | _, _ => false
def zeqL : List MV → List Value → Bool
  | [], [] => true
  | x :: l, v :: vs => zeq x v && zeqL l vs
  | _, _ => false

theorem zeq_ok {x : MV} {v : Value} (h : zeq x v = true) (ρ : Nat → Hd) (m : Mem) : Cv ρ m x v := by
  unfold zeq at h
  split at h <;> simp_all [Cv]
  rename_i s t
  obtain ⟨h1, h2⟩ := h
  cases s with | mk s => cases t with | mk t => cases s; cases t; simp_all
theorem zeqL_ok : ∀ {l : List MV} {vs : List Value}, zeqL l vs = true → ∀ (ρ : Nat → Hd) (m : Mem), CvL ρ m l vs
  | [], [], _, _, _ => rfl
  | [], _ :: _, h, _, _ => by simp [zeqL] at h
  | _ :: _, [], h, _, _ => by simp [zeqL] at h
  | x :: l, v :: vs, h, ρ, m => by
    simp only [zeqL, Bool.and_eq_true] at h
    exact ⟨v, vs, rfl, zeq_ok h.1 ρ m, zeqL_ok h.2 ρ m⟩

theorem zeqL_has (d : Nat) : ∀ {l : List MV} {vs : List Value}, zeqL l vs = true → MV.hasL d l = false
  | [], _, _ => rfl
  | x :: l, [], h => by simp [zeqL] at h
  | x :: l, v :: vs, h => by
    simp only [zeqL, Bool.and_eq_true] at h
    simp only [MV.hasL, Bool.or_eq_false_iff]
    refine ⟨?_, zeqL_has d h.2⟩
    have h1 := h.1
    unfold zeq at h1
    split at h1 <;> first | rfl | cases h1

def sizeb (P : Program) (t n : Nat) : Bool := match P.info? t with | some j => j.size == n | none => false
def bytesb (P : Program) (t n : Nat) : Bool := match P.info? t with | some j => j.bytes == n | none => false
def aggb (P : Program) (t : Nat) (b : Bool) : Bool := match P.underlying t with | some e => isAggD e == b | none => false
def fieldb (P : Program) (g : Field) (q : Nat × Nat × Bool) : Bool := g.offset == q.1 && sizeb P g.type q.2.1 && aggb P g.type q.2.2
def fieldsb (P : Program) : List Field → List (Nat × Nat × Bool) → Bool
  | _, [] => true
  | g :: gs, q :: qs => fieldb P g q && fieldsb P gs qs
  | [], _ :: _ => false
/-- a default of each kind -/
def Kd.df : (k : Kd) → k.T
  | .int _ => (0 : Int)
  | .bool => false
  | .str => (⟨#[]⟩ : ByteArray)
  | .slice _ => ([] : List _)
  | .pair a b => (a.df, b.df)
  | .unit => ()
/-- these cells are a kind's default -/
def dfb : Kd → List Value → Option (List Value)
  | .int k, l => match l with
    | .int k' x :: l' => if k = k' ∧ x = 0 then some l' else none
    | _ => none
  | .bool, l => match l with
    | .bool b :: l' => if b = false then some l' else none
    | _ => none
  | .str, l => match l with
    | .string s :: l' => if s.data.toList.isEmpty then some l' else none
    | _ => none
  | .slice _, l => match l with
    | .slice none 0 0 :: l' => some l'
    | _ => none
  | .pair a b, l => (dfb a l).bind (dfb b)
  | .unit, l => some l
theorem dfb_ok (m : Mem) : ∀ (k : Kd) (l l' : List Value), dfb k l = some l' → ∃ cs, l = cs ++ l' ∧ k.R m k.df cs
  | .int k, l, l', h => by
    simp only [dfb] at h
    split at h
    · rename_i k' x l1
      split at h
      · rename_i hc
        obtain ⟨rfl, rfl⟩ := hc
        simp only [Option.some.injEq] at h; subst h
        exact ⟨[.int k 0], rfl, rfl⟩
      · cases h
    · cases h
  | .bool, l, l', h => by
    simp only [dfb] at h
    split at h
    · split at h
      · rename_i hc
        subst hc
        simp only [Option.some.injEq] at h; subst h
        exact ⟨[.bool false], rfl, rfl⟩
      · cases h
    · cases h
  | .str, l, l', h => by
    simp only [dfb] at h
    split at h
    · rename_i s l1
      split at h
      · rename_i hc
        simp only [Option.some.injEq] at h; subst h
        refine ⟨[.string s], rfl, ?_⟩
        simp only [Kd.R, Kd.df]
        cases s with | mk s => cases s; simp_all
      · cases h
    · cases h
  | .slice e, l, l', h => by
    simp only [dfb] at h
    split at h
    · simp only [Option.some.injEq] at h; subst h
      exact ⟨[.slice none 0 0], rfl, _, rfl, .inl ⟨_, rfl, rfl⟩⟩
    · cases h
  | .pair a b, l, l', h => by
    simp only [dfb, Option.bind_eq_some_iff] at h
    obtain ⟨l1, h1, h2⟩ := h
    obtain ⟨c, rfl, hc⟩ := dfb_ok m a _ _ h1
    obtain ⟨d, rfl, hd⟩ := dfb_ok m b _ _ h2
    exact ⟨c ++ d, by rw [List.append_assoc], c, d, rfl, hc, hd⟩
  | .unit, l, l', h => by
    simp only [dfb, Option.some.injEq] at h; subst h
    exact ⟨[], rfl, rfl⟩
def ekb (P : Program) (e : Nat) (k : Kd) : Bool := match P.info? e with | some j => (match j.zero with | some z => (match dfb k z.cells.toList with | some [] => true | _ => false) | none => false) | none => false

def tagOf : TypeDesc → Nat
  | .bool => 1
  | .pointer _ => 2
  | .slice _ => 3
  | .func _ _ _ => 4
  | .interface _ => 5
  | .string => 7
  | _ => 0
/-- does that fit the program's own type? -/
def tokb (P : Program) (t : Nat) (i : TI) : Bool :=
  match P.info? t, P.underlying t with
  | some j, some d => j.size == i.size && j.bytes == i.bytes && (isAggD d == i.agg && tagOf d == i.tag) &&
    (match j.zero with | some z => zeqL i.zero z.cells.toList | none => false) &&
    (match d with | .struct fs => fieldsb P fs.toList i.fields && fs.size == i.fields.length | _ => i.fields.isEmpty) &&
    (!i.arr || match d with | .array n e => n == i.alen && e == i.elem && sizeb P e i.esz && aggb P e i.eagg | _ => false) &&
    (!i.slc || match d with | .slice e => e == i.elem && sizeb P e i.esz | _ => false) &&
    (match i.ik with | some k => (match d with | .int k' => k == k' | _ => false) | none => true) &&
    (match i.ek with | some k => i.slc && k.n == i.esz && ekb P i.elem k && bytesb P i.elem i.eb | none => true)
  | _, _ => false

theorem sizeb_ok {P : Program} {t n : Nat} (h : sizeb P t n = true) : ∃ j, P.info? t = some j ∧ j.size = n := by
  unfold sizeb at h
  split at h
  · rename_i j hj; exact ⟨j, hj, by simpa using h⟩
  · cases h
theorem aggb_ok {P : Program} {t : Nat} {b : Bool} (h : aggb P t b = true) : ∃ e, P.underlying t = some e ∧ isAggD e = b := by
  unfold aggb at h
  split at h
  · rename_i j hj; exact ⟨j, hj, by simpa using h⟩
  · cases h
theorem fieldsb_ok {P : Program} : ∀ {fs : List Field} {l : List (Nat × Nat × Bool)}, fieldsb P fs l = true → ∀ (f : Nat) (q : Nat × Nat × Bool), l[f]? = some q →
    ∃ g : Field, fs[f]? = some g ∧ g.offset = q.1 ∧ sizeb P g.type q.2.1 = true ∧ aggb P g.type q.2.2 = true
  | _, [], _, f, q, hq => by simp at hq
  | [], _ :: _, h, _, _, _ => by simp [fieldsb] at h
  | g :: gs, r :: l, h, 0, q, hq => by
    simp only [fieldsb, fieldb, Bool.and_eq_true, beq_iff_eq] at h
    simp at hq; subst hq
    exact ⟨g, rfl, h.1.1.1, h.1.1.2, h.1.2⟩
  | g :: gs, r :: l, h, f + 1, q, hq => by
    simp only [fieldsb, Bool.and_eq_true] at h
    obtain ⟨g', h1, h2⟩ := fieldsb_ok h.2 f q (by simpa using hq)
    exact ⟨g', by simpa using h1, h2⟩

/-- what that says of the program's own type -/
structure TOK (P : Program) (t : TypeId) (i : TI) : Prop where
  info : ∃ j z, P.info? t = some j ∧ j.size = i.size ∧ j.bytes = i.bytes ∧ j.zero = some z ∧ ∀ ρ m, CvL ρ m i.zero z.cells.toList
  zfr : ∀ d, MV.hasL d i.zero = false
  und : ∃ d, P.underlying t = some d ∧ isAggD d = i.agg ∧ tagOf d = i.tag
  fld : ∀ (f : Nat) (q : Nat × Nat × Bool), i.fields[f]? = some q → ∃ (fs : Array Field) (g : Field), P.underlying t = some (.struct fs) ∧ fs[f]? = some g ∧ g.offset = q.1 ∧ sizeb P g.type q.2.1 = true ∧ aggb P g.type q.2.2 = true
  flen : ∀ fs, P.underlying t = some (.struct fs) → fs.size = i.fields.length
  arr : i.arr = true → P.underlying t = some (.array i.alen i.elem) ∧ sizeb P i.elem i.esz = true ∧ aggb P i.elem i.eagg = true
  slc : i.slc = true → P.underlying t = some (.slice i.elem) ∧ sizeb P i.elem i.esz = true
  ik : ∀ k, i.ik = some k → P.underlying t = some (.int k)
  ek : ∀ k, i.ek = some k → i.slc = true ∧ k.n = i.esz ∧ ∃ j z, P.info? i.elem = some j ∧ j.bytes = i.eb ∧ j.zero = some z ∧ ∀ m, k.R m k.df z.cells.toList

theorem tok_of {P : Program} {t : Nat} {i : TI} (h : tokb P t i = true) : TOK P t i := by
  unfold tokb at h
  split at h
  case h_2 => cases h
  rename_i j d hj hd
  simp only [Bool.and_eq_true, beq_iff_eq] at h
  obtain ⟨⟨⟨⟨⟨⟨⟨⟨h1, h2⟩, h3⟩, h4⟩, h5⟩, h6⟩, h7⟩, h8⟩, h9⟩ := h
  refine ⟨?_, ?_, ⟨d, hd, h3.1, h3.2⟩, ?_, ?_, ?_, ?_, ?_, ?_⟩
  · split at h4
    · rename_i z hz; exact ⟨j, z, hj, h1, h2, hz, zeqL_ok h4⟩
    · cases h4
  · intro q
    split at h4
    · exact zeqL_has q h4
    · cases h4
  · intro f q hq
    split at h5
    · rename_i fs
      simp only [Bool.and_eq_true] at h5
      obtain ⟨g, g1, g2⟩ := fieldsb_ok h5.1 f q hq
      exact ⟨fs, g, hd, by simpa using g1, g2⟩
    · simp at h5; rw [h5] at hq; simp at hq
  · intro fs hfs
    rw [hd] at hfs; cases hfs
    simp only [Bool.and_eq_true, beq_iff_eq] at h5
    exact h5.2
  · intro ha
    rw [ha] at h6
    simp only [Bool.not_true, Bool.false_or] at h6
    split at h6
    · rename_i n e
      simp only [Bool.and_eq_true, beq_iff_eq] at h6
      obtain ⟨⟨⟨rfl, rfl⟩, g1⟩, g2⟩ := h6
      exact ⟨hd, g1, g2⟩
    · cases h6
  · intro ha
    rw [ha] at h7
    simp only [Bool.not_true, Bool.false_or] at h7
    split at h7
    · rename_i e
      simp only [Bool.and_eq_true, beq_iff_eq] at h7
      obtain ⟨rfl, g1⟩ := h7
      exact ⟨hd, g1⟩
    · cases h7
  · intro k hk
    rw [hk] at h8
    simp only at h8
    split at h8
    · rename_i k'; simp only [beq_iff_eq] at h8; subst h8; exact hd
    · cases h8
  · intro k hk
    rw [hk] at h9
    simp only [Bool.and_eq_true, beq_iff_eq, ekb] at h9
    refine ⟨h9.1.1.1, h9.1.1.2, ?_⟩
    have hb := h9.2
    have h9 := h9.1.2
    unfold bytesb at hb
    split at h9
    · rename_i j hj
      split at h9
      · rename_i z hz
        split at h9
        · rename_i hz'
          rw [hj] at hb
          refine ⟨j, z, hj, by simpa using hb, hz, fun m => ?_⟩
          obtain ⟨cs, h1, h2⟩ := dfb_ok m k _ _ hz'
          rw [List.append_nil] at h1; rw [h1]; exact h2
        · cases h9
      · cases h9
    · cases h9

def kwrap (k : IntKind) (x : Int) : Int := k.wrap x
def kand (k : IntKind) (x y : Int) : Int := k.wrap (BitVec.ofInt k.bits x &&& BitVec.ofInt k.bits y).toNat
def kor (k : IntKind) (x y : Int) : Int := k.wrap (BitVec.ofInt k.bits x ||| BitVec.ofInt k.bits y).toNat
def kxor (k : IntKind) (x y : Int) : Int := k.wrap (BitVec.ofInt k.bits x ^^^ BitVec.ofInt k.bits y).toNat
def kandn (k : IntKind) (x y : Int) : Int := k.wrap (BitVec.ofInt k.bits x &&& ~~~ BitVec.ofInt k.bits y).toNat
def kshl (k : IntKind) (x y : Int) : Int := k.wrap (x * 2 ^ (min y.toNat k.bits))
def kshr (k : IntKind) (x y : Int) : Int := x.fdiv (2 ^ (min y.toNat k.bits))
def imin (x y : Int) : Int := if y < x then y else x
def imax (x y : Int) : Int := if y > x then y else x

def ofc : Value → MV
  | .int k n => .int k n
  | .bool b => .bool b
  | .string s => .str s
  | .pointer none => .nilp
  | .slice none 0 0 => .nils
  | .nilFunc => .nilf
  | .nilIface => .nili
  | .map none => .nilm
  | v => .raw v

theorem cv_ofc (ρ : Nat → Hd) (m : Mem) (v : Value) : Cv ρ m (ofc v) v := by
  unfold ofc
  split <;> simp [Cv]

def opd (A : List (Nat × MV)) : Operand → Option MV
  | .tmp t => get A t
  | .const v => some (ofc v)
  | .func f => some (.fn f [])
  | .global _ => none

/-- a slot's facts -/
def Slots (ρ : Nat → Hd) (m : Mem) (A : List (Nat × MV)) (a : Act) : Prop := ∀ s x, get A s = some x → ∃ v, a.tmps[s]? = some v ∧ Cv ρ m x v

theorem opd_ok {ρ : Nat → Hd} {m : Mem} {A : List (Nat × MV)} {a : Act} (h : Slots ρ m A a) {x : Operand} {y : MV} (hx : opd A x = some y) : Cv ρ m y (a.eval x) := by
  cases x with
  | tmp t =>
    obtain ⟨v, hv, hc⟩ := h t y hx
    simpa [Act.eval, hv] using hc
  | const v => simp [opd] at hx; subst hx; exact cv_ofc ρ m v
  | func f => simp [opd] at hx; subst hx; exact ⟨[], rfl, rfl⟩
  | global g => simp [opd] at hx

/-- an integer operation -/
def ibin (op : BinOp) (k : IntKind) (x y : Int) : Option (MV × Prop) :=
  match op with
  | .add => some (.int k (kwrap k (x + y)), True)
  | .sub => some (.int k (kwrap k (x - y)), True)
  | .mul => some (.int k (kwrap k (x * y)), True)
  | .quo => some (.int k (kwrap k (x.tdiv y)), y ≠ 0)
  | .rem => some (.int k (x.tmod y), y ≠ 0)
  | .and => some (.int k (kand k x y), True)
  | .or => some (.int k (kor k x y), True)
  | .xor => some (.int k (kxor k x y), True)
  | .andNot => some (.int k (kandn k x y), True)
  | .eql => some (.bool (x == y), True)
  | .neq => some (.bool (x != y), True)
  | .lss => some (.bool (decide (x < y)), True)
  | .leq => some (.bool (decide (x ≤ y)), True)
  | .gtr => some (.bool (decide (x > y)), True)
  | .geq => some (.bool (decide (x ≥ y)), True)
  | _ => none

def isShift : BinOp → Bool
  | .shl | .shr => true
  | _ => false

def beqs (s t : ByteArray) : Bool := s.toList == t.toList

def bin (op : BinOp) (x y : MV) : Option (MV × Prop) :=
  match x, y with
  | .int k a, .int k' b =>
    match op with
    | .shl => some (.int k (kshl k a b), 0 ≤ b)
    | .shr => some (.int k (kshr k a b), 0 ≤ b)
    | op => if k = k' then ibin op k a b else none
  | .str s, .str t =>
    match op with
    | .eql => some (.bool (beqs s t), True)
    | .neq => some (.bool (!(beqs s t)), True)
    | .add => some (.str (s ++ t), s.size + t.size ≤ 9223372036854775807)
    | _ => none
  | _, _ => none

theorem ibin_ok {P : Program} {op : BinOp} {k : IntKind} {x y : Int} {r : MV} {C : Prop} (h : ibin op k x y = some (r, C)) (hC : C) (T : TypeId) (w : World) (ρ : Nat → Hd) (m : Mem) :
    ∃ v, (binOp op T (.int k x) (.int k y)).run P w = .ok v w ∧ Cv ρ m r v := by
  cases op <;> simp only [ibin, Option.some.injEq, Prod.mk.injEq, reduceCtorEq] at h <;> obtain ⟨rfl, rfl⟩ := h <;>
    simp [binOp, Op.intArith, Op.intDiv, Op.intBits, Op.intCmp, pure, Cv, kwrap, kand, kor, kxor, kandn, hC] <;> exact hC

theorem bin_ok {P : Program} {op : BinOp} {x y : MV} {r : MV} {C : Prop} (h : bin op x y = some (r, C)) (hC : C) (T : TypeId) (w : World) {ρ : Nat → Hd} {m : Mem} {u v : Value}
    (hu : Cv ρ m x u) (hv : Cv ρ m y v) : ∃ z, (binOp op T u v).run P w = .ok z w ∧ Cv ρ m r z := by
  unfold bin at h
  split at h
  · rename_i k a k' b
    simp only [Cv] at hu hv
    subst hu hv
    cases op <;> simp only [Option.some.injEq, Prod.mk.injEq, Option.ite_none_right_eq_some] at h
    all_goals first
      | (obtain ⟨hk, h⟩ := h; subst hk; exact ibin_ok h hC T w ρ m)
      | (obtain ⟨rfl, rfl⟩ := h
         have hb : ¬ b < 0 := by omega
         simp [binOp, Op.shift, hb, pure, Cv, kshl, kshr])
  · rename_i s t
    simp only [Cv] at hu hv
    subst hu hv
    cases op <;> simp only [Option.some.injEq, Prod.mk.injEq, reduceCtorEq] at h <;> obtain ⟨rfl, rfl⟩ := h
    · simp [binOp, Op.stringOp, pure, Cv]; omega
    · simp [binOp, Op.stringOp, pure, Cv, beqs]
    · simp [binOp, Op.stringOp, pure, Cv, beqs]
  · cases h

end Go.Fo
