/- The evaluator of the operations that change no memory, and that what it tells is what the machine does. -/
import Derived.Test.YtcaehpgdcjonfaaKc
namespace Go.Fo

/-- an operand; under a guard a value that is there on a condition alone -/
def opg (A : List (Nat × MV)) (g : Option Bool) (x : Operand) : Option (MV × Prop) :=
  match opd A x with
  | some (.cnd t y) => match g with | some b => some (y, b = true → t = true) | none => none
  | some y => some (y, True)
  | none => none

def GOK (g : Option Bool) : Prop := g = none ∨ g = some true

theorem opg_ok {ρ : Nat → Hd} {m : Mem} {A : List (Nat × MV)} {a : Act} (h : Slots ρ m A a) {g : Option Bool} (hg : GOK g) {x : Operand} {y : MV} {C : Prop} (hx : opg A g x = some (y, C)) (hC : C) : Cv ρ m y (a.eval x) := by
  unfold opg at hx
  split at hx
  · rename_i t z hz
    have := opd_ok h hz
    split at hx
    · rename_i b
      simp only [Option.some.injEq, Prod.mk.injEq] at hx
      obtain ⟨rfl, rfl⟩ := hx
      rcases hg with hg | hg
      · cases hg
      · cases hg; exact this.1 (hC rfl)
    · cases hx
  · rename_i z _ hz
    simp only [Option.some.injEq, Prod.mk.injEq] at hx
    obtain ⟨rfl, rfl⟩ := hx
    exact opd_ok h hz
  · cases hx

def strip : MV → Option Bool × MV
  | .cnd t x => (some t, x)
  | x => (none, x)
def impl (t : Bool) : Option Bool → Prop
  | none => True
  | some u => t = true → u = true
theorem strip_ok {ρ : Nat → Hd} {m : Mem} {x : MV} {v : Value} (h : Cv ρ m x v) {t : Bool} (ht : t = true) (hi : impl t (strip x).1) : Cv ρ m (strip x).2 v := by
  unfold strip at *
  split
  · rename_i u y; exact h.1 (hi ht)
  · exact h

def pickM (t : Bool) (a b : MV) : Option (MV × Prop) :=
  match strip a, strip b with
  | (ta, .bool p), (tb, .bool q) => some (.bool (bif t then p else q), impl t ta ∧ impl (!t) tb)
  | _, _ => none

def opgs (A : List (Nat × MV)) (g : Option Bool) : List Operand → Option (List MV × Prop)
  | [] => some ([], True)
  | x :: l => match opg A g x, opgs A g l with
    | some (y, C), some (ys, D) => some (y :: ys, C ∧ D)
    | _, _ => none

theorem opgs_ok {ρ : Nat → Hd} {m : Mem} {A : List (Nat × MV)} {a : Act} (h : Slots ρ m A a) {g : Option Bool} (hg : GOK g) : ∀ {l : List Operand} {ys : List MV} {C : Prop}, opgs A g l = some (ys, C) → C → CvL ρ m ys (l.map a.eval)
  | [], ys, C, hx, hC => by simp only [opgs, Option.some.injEq, Prod.mk.injEq] at hx; obtain ⟨rfl, rfl⟩ := hx; rfl
  | x :: l, ys, C, hx, hC => by
    unfold opgs at hx
    split at hx
    · rename_i y D zs E h1 h2
      simp only [Option.some.injEq, Prod.mk.injEq] at hx
      obtain ⟨rfl, rfl⟩ := hx
      exact ⟨_, _, rfl, opg_ok h hg h1 hC.1, opgs_ok h hg h2 hC.2⟩
    · cases hx

/-- equality that is no integers' and no strings' -/
def eqm (tag : Nat) (x y : MV) : Option (Bool × Prop) :=
  match x, y with
  | .bool a, .bool b => if tag == 1 then some (a == b, True) else none
  | .nilp, .nilp => if tag == 2 then some (true, True) else none
  | .p _ _, .nilp => if tag == 2 then some (false, True) else none
  | .pe _ _ _, .nilp => if tag == 2 then some (false, True) else none
  | .pim _ _, .nilp => if tag == 2 then some (false, True) else none
  | .nilp, .p _ _ => if tag == 2 then some (false, True) else none
  | .nils, .nils => if tag == 3 then some (true, True) else none
  | .im (.slice _) l, .nils => if tag == 3 then some (false, l ≠ []) else none
  | .hd _ _, .nils => if tag == 3 then some (false, True) else none
  | .nilf, .nilf => if tag == 4 then some (true, True) else none
  | .fn _ _, .nilf => if tag == 4 then some (false, True) else none
  | .ifc _ _, .nili => if tag == 5 then some (false, True) else none
  | _, _ => none

/-- equality of aggregates, cell by cell -/
def eq1 : MV → MV → Option Bool
  | .int k a, .int k' b => if k = k' then some (a == b) else none
  | .bool a, .bool b => some (a == b)
  | .str s, .str t => some (beqs s t)
  | _, _ => none
def eqL : List MV → List MV → Option Bool
  | [x], [y] => eq1 x y
  | x :: l, y :: l' => match eq1 x y, eqL l l' with
    | some a, some b => some (a && b)
    | _, _ => none
  | _, _ => none
/-- the same sorts of cells -/
def shp : List MV → List MV → Bool
  | [], [] => true
  | .int k _ :: l, .int k' _ :: l' => k == k' && shp l l'
  | .bool _ :: l, .bool _ :: l' => shp l l'
  | .str _ :: l, .str _ :: l' => shp l l'
  | _, _ => false
/-- how a type's aggregates are held against each other -/
def EqF (P : Program) (t : TypeId) (i : TI) : Prop :=
  ∀ (xs ys : List MV) (b : Bool), shp i.zero xs = true → shp i.zero ys = true → eqL xs ys = some b → ∀ (ρ : Nat → Hd) (m : Mem) (us vs : List Value), CvL ρ m xs us → CvL ρ m ys vs → ∀ w, ∀ x y : Operand,
    (eqGuard .eql t x y (.agg us.toArray) (.agg vs.toArray)).run P w = .ok () w ∧ (Op.equal t (.agg us.toArray) (.agg vs.toArray)).run P w = .ok b w

def isEq : BinOp → Option Bool
  | .eql => some true
  | .neq => some false
  | _ => none

def binM (tab : Nat → Option TI) (op : BinOp) (T : TypeId) (x y : MV) : Option (MV × Prop) :=
  match x, y with
  | .int k a, .int k' b => bin op (.int k a) (.int k' b)
  | .str s, .str t => bin op (.str s) (.str t)
  | .agg l, .agg l' => match isEq op, tab T with
    | some e, some i => if i.eqf && shp i.zero l && shp i.zero l' then (match eqL l l' with | some b => some (.bool (if e then b else !b), True) | none => none) else none
    | _, _ => none
  | x, y => match isEq op, tab T with
    | some e, some i => (match eqm i.tag x y with | some (b, C) => some (.bool (if e then b else !b), C) | none => none)
    | _, _ => none

def unM (op : UnOp) (x : MV) : Option MV :=
  match op, x with
  | .neg, .int k n => some (.int k (kwrap k (0 - n)))
  | .not, .bool b => some (.bool !b)
  | .xor, .int k n => some (.int k (kxor k (if k.signed then -1 else k.max) n))
  | _, _ => none

def fieldAddrM (i : TI) (x : MV) (f : Nat) : Option MV :=
  match i.fields[f]? with
  | none => none
  | some (off, n, _) => if n == 0 then none else match x with
    | .p key o => some (.p key (o + off))
    | .pe key j o => some (.pe key j (o + off))
    | .pf key o j => some (.pf key o (j + off))
    | .pim k y => match k.at y off n with | some ⟨k', z⟩ => some (.pim k' z) | none => none
    | _ => none

def fieldM (i : TI) (x : MV) (f : Nat) : Option MV :=
  match i.fields[f]?, x with
  | some (off, n, ag), .agg l => if ag then some (.agg ((l.drop off).take n)) else l[off]?
  | _, _ => none

def one (l : List MV) : Option MV := match l with | [y] => some y | _ => none
def shutM (ag : Bool) (l : List MV) : Option MV := if ag then some (.agg l) else one l

def loadM (i : TI) (L : List (Nat × Option MObj)) (x : MV) : Option (MV × Prop) :=
  match x with
  | .p key off => match getO L key with
    | some (.cells cs) => if decide (off + i.size ≤ cs.length) then (shutM i.agg ((cs.drop off).take i.size)).map fun y => (y, True) else none
    | _ => none
  | .pf key o j => match getO L key with
    | some (.foc pre cs _) => if decide (j + i.size ≤ cs.length) then (shutM i.agg ((cs.drop j).take i.size)).map fun y => (y, o = pre.length) else none
    | _ => none
  | .pim k y => if k.n == i.size then (shutM i.agg (k.flat y)).map fun z => (z, True) else none
  | .pe key j f => match getO L key with
    | some (.rows k xs) => (match k.at (k.nth xs j) f i.size with | some ⟨k', y⟩ => (shutM i.agg (k'.flat y)).map fun z => (z, j < xs.length) | none => none)
    | _ => none
  | _ => none

def indexAddrM (i : TI) (L : List (Nat × Option MObj)) (x : MV) (n : Int) : Option (MV × Prop) :=
  if i.slc then match x with
    | .im (.slice e) l => if e.n == i.esz then some (.pim e (e.nth l n.toNat), 0 ≤ n ∧ n < (l.length : Int)) else none
    | .sl key => match getO L key with
      | some (.rows k xs) => if k.n == i.esz then some (.pe key n.toNat 0, 0 ≤ n ∧ n < (xs.length : Int)) else none
      | _ => none
    | .hd key c => some (.p key (n.toNat * i.esz), 0 ≤ n ∧ n < (c : Int))
    | _ => none
  else if i.arr then match x with
    | .p key off => if decide (2 ≤ i.alen) then some (.p key (off + n.toNat * i.esz), 0 ≤ n ∧ n < (i.alen : Int)) else none
    | _ => none
  else none

/-- a list of integers of one kind -/
def intsM : List MV → Option (IntKind × List Int)
  | [.int k x] => some (k, [x])
  | .int k x :: l => match intsM l with | some (k', xs) => if k = k' then some (k, x :: xs) else none | none => none
  | _ => none
def sbyte (s : ByteArray) (n : Nat) : Int := ((s[n]?).getD 0).toNat

def indexM (i : TI) (x : MV) (n : Int) : Option (MV × Prop) :=
  match x with
  | .str s => if i.tag == 7 then some (.int .u8 (sbyte s n.toNat), 0 ≤ n ∧ n < (s.size : Int)) else none
  | .agg l => if i.arr && i.esz == 1 && !i.eagg && i.alen == l.length then (match intsM l with | some (k, xs) => some (.int k (xs.getD n.toNat 0), 0 ≤ n ∧ n < (l.length : Int)) | none => none)
      else if i.arr && i.eagg && i.alen * i.esz == l.length then (match intsM l with
        | some (k, xs) => some (.agg ((List.range i.esz).map fun j => .int k (xs.getD (n.toNat * i.esz + j) 0)), 0 ≤ n ∧ n < (i.alen : Int))
        | none => none) else none
  | _ => none

def lenM (i : TI) (L : List (Nat × Option MObj)) (x : MV) : Option MV :=
  if i.slc then match x with
    | .im (.slice _) l => some (.int .i64 (l.length : Int))
    | .nils => some (.int .i64 0)
    | .sl key => match getO L key with
      | some (.rows _ xs) => some (.int .i64 (xs.length : Int))
      | _ => none
    | .hd _ c => some (.int .i64 (c : Int))
    | _ => none
  else if i.tag == 7 then match x with
    | .str s => some (.int .i64 (s.size : Int))
    | _ => none
  else if i.arr then some (.int .i64 (i.alen : Int))
  else none

def foldMin : MV → List MV → Option MV
  | x, [] => some x
  | .int k x, .int _ y :: l => foldMin (.int k (imin x y)) l
  | _, _ => none
def foldMax : MV → List MV → Option MV
  | x, [] => some x
  | .int k x, .int _ y :: l => foldMax (.int k (imax x y)) l
  | _, _ => none

def mvcells : MV → List MV
  | .agg l => l
  | x => [x]
/-- no aggregate hides in it -/
def solid : MV → Bool
  | .cnd _ _ => false
  | .raw _ => false
  | .tup _ => false
  | .im (.slice _) _ => true
  | .im _ _ => false
  | _ => true
/-- parts laid into a row of cells -/
def fillM (place : Nat → Option (Nat × Nat)) : List MV → List (Nat × MV) → Option (List MV)
  | cs, [] => some cs
  | cs, (i, v) :: rest => match place i with
    | none => none
    | some (off, n) => if solid v && (mvcells v).length == n && decide (off + n ≤ cs.length) then fillM place (cs.take off ++ (mvcells v ++ cs.drop (off + n))) rest else none

def buildM (i : TI) (parts : List (Nat × MV)) : Option MV :=
  if i.arr then (fillM (fun j => some (j * i.esz, i.esz)) i.zero parts).map .agg
  else if i.fields.isEmpty then none else (fillM (fun j => (i.fields[j]?).map fun q => (q.1, q.2.1)) i.zero parts).map .agg

/-- an array's elements -/
def elK : Nat → Kd → Kd
  | 1, k => k
  | _, .pair a _ => a
  | _, k => k
def unpairs (e : Kd) : Nat → (k : Kd) → k.T → Option (List e.T)
  | 1, k, x => if h : k = e then some [h ▸ x] else none
  | n + 2, .pair a b, x => if h : a = e then (match unpairs e (n + 1) b x.2 with | some l => some ((h ▸ x.1) :: l) | none => none) else none
  | _, _, _ => none

def sliceM (i : TI) (L : List (Nat × Option MObj)) (x : MV) (lo hi : Option Int) : Option (MV × Prop) :=
  match x with
  | .sl key => match getO L key, hi with
    | some (.rows k xs), none => if i.slc && k.n == i.esz then some (.sv key (lo.getD 0).toNat, 0 ≤ lo.getD 0 ∧ lo.getD 0 < (xs.length : Int)) else none
    | _, _ => none
  | .im (.slice e) l => if i.slc && e.n == i.esz then
      some (.im (.slice e) ((l.take (hi.getD (l.length : Int)).toNat).drop (lo.getD 0).toNat), 0 ≤ lo.getD 0 ∧ lo.getD 0 ≤ hi.getD (l.length : Int) ∧ hi.getD (l.length : Int) ≤ (l.length : Int)) else none
  | .str s => if i.tag == 7 then
      some (.str (s.extract (lo.getD 0).toNat (hi.getD (s.size : Int)).toNat), 0 ≤ lo.getD 0 ∧ lo.getD 0 ≤ hi.getD (s.size : Int) ∧ hi.getD (s.size : Int) ≤ (s.size : Int)) else none
  | .pim k y => if i.arr && (elK i.alen k).n == i.esz then (match unpairs (elK i.alen k) i.alen k y with
      | some l => some (.im (.slice (elK i.alen k)) ((l.take (hi.getD (l.length : Int)).toNat).drop (lo.getD 0).toNat), 0 ≤ lo.getD 0 ∧ lo.getD 0 ≤ hi.getD (l.length : Int) ∧ hi.getD (l.length : Int) ≤ (l.length : Int))
      | none => none) else none
  | _ => none

def oint (A : List (Nat × MV)) (g : Option Bool) : Option Operand → Option (Option Int × Prop)
  | none => some (none, True)
  | some x => match opg A g x with
    | some (.int _ n, C) => some (some n, C)
    | _ => none

def partsM (A : List (Nat × MV)) (g : Option Bool) : List (Nat × Operand) → Option (List (Nat × MV) × Prop)
  | [] => some ([], True)
  | (i, x) :: l => match opg A g x, partsM A g l with
    | some (y, C), some (ys, D) => some ((i, y) :: ys, C ∧ D)
    | _, _ => none

/-- a string of bytes -/
def bstr (l : List Int) : ByteArray := l.foldl (fun r n => r.push (UInt8.ofNat n.toNat)) ByteArray.empty
def pureD (tab : Nat → Option TI) (A : List (Nat × MV)) (L : List (Nat × Option MObj)) (g : Option Bool) : Op → Option (MV × Prop)
  | .move x => opg A g x
  | .assign x => opg A g x
  | .pick c a b => match opg A g c, opd A a, opd A b with
    | some (.bool t, C), some x, some y => (match pickM t x y with | some (r, D) => some (r, C ∧ D) | none => none)
    | _, _, _ => none
  | .binOp op T x y _ => match opg A g x, opg A g y with
    | some (x', C), some (y', D) => (match binM tab op T x' y' with | some (r, E) => some (r, C ∧ D ∧ E) | none => none)
    | _, _ => none
  | .unOp op _ x => match opg A g x with
    | some (x', C) => (match unM op x' with | some r => some (r, C) | none => none)
    | none => none
  | .convert s d x => match tab s, tab d, opg A g x with
    | some _, some i, some (.int _ n, C) => (match i.ik with | some k => some (.int k (kwrap k n), C) | none => none)
    | some j, some i, some (.im (.slice (.int .u8)) l, C) => if j.slc && i.tag == 7 && (tab j.elem).any (fun e => e.ik == some .u8) then some (.str (bstr l), C) else none
    | _, _, _ => none
  | .fieldAddr S x f => match tab S, opg A g x with
    | some i, some (x', C) => (match fieldAddrM i x' f with | some r => some (r, C) | none => none)
    | _, _ => none
  | .field S x f => match tab S, opg A g x with
    | some i, some (x', C) => (match fieldM i x' f with | some r => some (r, C) | none => none)
    | _, _ => none
  | .load T x => match tab T, opg A g x with
    | some i, some (x', C) => (match loadM i L x' with | some (r, D) => some (r, C ∧ D) | none => none)
    | _, _ => none
  | .indexAddr T x n => match tab T, opg A g x, opg A g n with
    | some i, some (x', C), some (.int _ n', D) => (match indexAddrM i L x' n' with | some (r, E) => some (r, C ∧ D ∧ E) | none => none)
    | _, _, _ => none
  | .index T x n => match tab T, opg A g x, opg A g n with
    | some i, some (x', C), some (.int _ n', D) => (match indexM i x' n' with | some (r, E) => some (r, C ∧ D ∧ E) | none => none)
    | _, _, _ => none
  | .extract x j => match opg A g x with
    | some (.tup l, C) => (match l[j]? with | some r => some (r, C) | none => none)
    | _ => none
  | .nilCheck x => match opg A g x with
    | some (.p k o, C) => some (.p k o, C)
    | some (.pe k j o, C) => some (.pe k j o, C)
    | some (.pf k o j, C) => some (.pf k o j, C)
    | some (.pim k y, C) => some (.pim k y, C)
    | _ => none
  | .makeFunc (.func f) first cap => if first.isEmpty then (match opgs A g cap.toList with | some (l, C) => some (.fn f l, C) | none => none) else none
  | .build t parts => match tab t, partsM A g parts.toList with
    | some i, some (ps, C) => (match buildM i ps with | some r => some (r, C) | none => none)
    | _, _ => none
  | .slice T x lo hi none => match tab T, opg A g x, oint A g lo, oint A g hi with
    | some i, some (x', C), some (lo', D), some (hi', E) => (match sliceM i L x' lo' hi' with | some (r, F) => some (r, C ∧ D ∧ E ∧ F) | none => none)
    | _, _, _, _ => none
  | .call { callee := .builtin .len, args, argTypes } => match argTypes[0]?, opgs A g args.toList with
    | some T, some ([x], C) => (match tab T with | some i => (match lenM i L x with | some r => some (r, C) | none => none) | none => none)
    | _, _ => none
  | .call { callee := .builtin .min, args, .. } => match opgs A g args.toList with
    | some (x :: l, C) => (match foldMin x l with | some r => some (r, C) | none => none)
    | _ => none
  | .call { callee := .builtin .max, args, .. } => match opgs A g args.toList with
    | some (x :: l, C) => (match foldMax x l with | some r => some (r, C) | none => none)
    | _ => none
  | _ => none

end Go.Fo
