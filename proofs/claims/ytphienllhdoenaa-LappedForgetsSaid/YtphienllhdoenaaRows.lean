/-
  No cell of these rows narrows 'for every input' (looked for: loops, veiled, ifaces, maps, wideKeys, modest, calm, conditions, laid).
  DERIVED. THE GIVEN ROWS OF THIS SEAT. 9 by the template 'for every input the law returns true; each argument reads behind the call as it read before'; 0 by the template 'total and deterministic' (their statements: YtphienllhdoenaaTotals.lean).
  GIVEN WITH THE SEED: the statements are not yours to turn. If you find one false, say at which input.
  Laid BY PROGRAM, IN A SANDBOX (cutbox-rows.mjs): the forced cells as the released guide's own fill.sh prints them over the translation eed3a9fcc7055d32… (all of the seat's roots in one cut). By AI agents, Wed Nov 11 2026. No macro, syntax, notation, axiom, sorry.
-/
import Derived.Test.YtphienllhdoenaaChecked
import GoSem.Claim
import GoSem.ClaimJoined
import GoSem.ClaimMapViews
import Derived.JoinedTies
import Derived.KernelRfl
namespace Go.Proofs.Ytphienllhdoenaa
/- THE CELL 'sum', in the pinned program and in every row, IS THE sha256 OF THE DUMP (.gsa) THAT YtphienllhdoenaaProg.lean LOADS. Nothing in Lean hashes anything: it is a label: what it is worth is what the hold of that sum in a sandbox is worth. -/
noncomputable def Try.pinned : Pinned := { name := "ytphienllhdoenaa", sum := "eed3a9fcc7055d32944975225f6543fbe51a21c467dabdb0d9d30e88fee318a6", checked := Try.checked }
namespace Rows
def none {H : Type} : Left H := { results := [], args := [] }

/-- 'psalterylaw08.PolySplits': WHATEVER THE INPUT: true; the input reads as it did. -/
def polySplitsSpec : ChangeSpec := { name := "polySplits", fn := fun _ => fun
  | [d1, d2] => { results := [.lit (.bool true)], args := [d1, d2] }
  | _ => none }
def polySplitsRow : OpenClaim := { program := "ytphienllhdoenaa", sum := "eed3a9fcc7055d32944975225f6543fbe51a21c467dabdb0d9d30e88fee318a6", func := "psaltery/psalterylaw08.PolySplits", spec := "polySplits", inPlace := ["sync/atomic.AddInt64", "sync/atomic.LoadUint32", "(*internal/sync.Mutex).Lock", "internal/race.Disable", "sync/atomic.CompareAndSwapInt32", "internal/race.Enable", "internal/race.Acquire", "(*internal/sync.Mutex).lockSlow", "internal/sync.runtime_canSpin", "internal/sync.runtime_doSpin", "internal/sync.throw", "internal/sync.runtime_nanotime", "internal/sync.runtime_SemacquireMutex", "sync/atomic.AddInt32", "(*internal/sync.Mutex).Unlock", "internal/race.ReleaseMerge", "(*internal/sync.Mutex).unlockSlow", "internal/sync.fatal", "internal/sync.runtime_Semrelease", "sync/atomic.StoreUint32"], unfollowed := true, recurses := true, apart := false }
def PolySplitsSaid : Prop := polySplitsRow.holds Try.pinned (OpenSpec.ofChange polySplitsSpec)

/-- ITS FALSE NEIGHBOUR: 'it returns false'. Refute it at one input. -/
def polySplitsWrong : ChangeSpec := { name := "polySplits", fn := fun _ => fun
  | [d1, d2] => { results := [.lit (.bool false)], args := [d1, d2] }
  | _ => none }
def PolySplitsWrongFalsely : Prop := polySplitsRow.holds Try.pinned (OpenSpec.ofChange polySplitsWrong)

/-- 'psalterylaw08.PolyJoins': WHATEVER THE INPUT: true; the input reads as it did. -/
def polyJoinsSpec : ChangeSpec := { name := "polyJoins", fn := fun _ => fun
  | [d1, d2] => { results := [.lit (.bool true)], args := [d1, d2] }
  | _ => none }
def polyJoinsRow : OpenClaim := { program := "ytphienllhdoenaa", sum := "eed3a9fcc7055d32944975225f6543fbe51a21c467dabdb0d9d30e88fee318a6", func := "psaltery/psalterylaw08.PolyJoins", spec := "polyJoins", inPlace := ["sync/atomic.AddInt64", "sync/atomic.LoadUint32", "(*internal/sync.Mutex).Lock", "internal/race.Disable", "sync/atomic.CompareAndSwapInt32", "internal/race.Enable", "internal/race.Acquire", "(*internal/sync.Mutex).lockSlow", "internal/sync.runtime_canSpin", "internal/sync.runtime_doSpin", "internal/sync.throw", "internal/sync.runtime_nanotime", "internal/sync.runtime_SemacquireMutex", "sync/atomic.AddInt32", "(*internal/sync.Mutex).Unlock", "internal/race.ReleaseMerge", "(*internal/sync.Mutex).unlockSlow", "internal/sync.fatal", "internal/sync.runtime_Semrelease", "sync/atomic.StoreUint32"], unfollowed := true, recurses := true, apart := false }
def PolyJoinsSaid : Prop := polyJoinsRow.holds Try.pinned (OpenSpec.ofChange polyJoinsSpec)

/-- ITS FALSE NEIGHBOUR: 'it returns false'. Refute it at one input. -/
def polyJoinsWrong : ChangeSpec := { name := "polyJoins", fn := fun _ => fun
  | [d1, d2] => { results := [.lit (.bool false)], args := [d1, d2] }
  | _ => none }
def PolyJoinsWrongFalsely : Prop := polyJoinsRow.holds Try.pinned (OpenSpec.ofChange polyJoinsWrong)

/-- 'psalterylaw08.PolyQuiet': WHATEVER THE INPUT: true; the input reads as it did. -/
def polyQuietSpec : ChangeSpec := { name := "polyQuiet", fn := fun _ => fun
  | [d1, d2] => { results := [.lit (.bool true)], args := [d1, d2] }
  | _ => none }
def polyQuietRow : OpenClaim := { program := "ytphienllhdoenaa", sum := "eed3a9fcc7055d32944975225f6543fbe51a21c467dabdb0d9d30e88fee318a6", func := "psaltery/psalterylaw08.PolyQuiet", spec := "polyQuiet", inPlace := ["sync/atomic.AddInt64", "sync/atomic.LoadUint32", "(*internal/sync.Mutex).Lock", "internal/race.Disable", "sync/atomic.CompareAndSwapInt32", "internal/race.Enable", "internal/race.Acquire", "(*internal/sync.Mutex).lockSlow", "internal/sync.runtime_canSpin", "internal/sync.runtime_doSpin", "internal/sync.throw", "internal/sync.runtime_nanotime", "internal/sync.runtime_SemacquireMutex", "sync/atomic.AddInt32", "(*internal/sync.Mutex).Unlock", "internal/race.ReleaseMerge", "(*internal/sync.Mutex).unlockSlow", "internal/sync.fatal", "internal/sync.runtime_Semrelease", "sync/atomic.StoreUint32"], unfollowed := true, recurses := true, apart := false }
def PolyQuietSaid : Prop := polyQuietRow.holds Try.pinned (OpenSpec.ofChange polyQuietSpec)

/-- ITS FALSE NEIGHBOUR: 'it returns false'. Refute it at one input. -/
def polyQuietWrong : ChangeSpec := { name := "polyQuiet", fn := fun _ => fun
  | [d1, d2] => { results := [.lit (.bool false)], args := [d1, d2] }
  | _ => none }
def PolyQuietWrongFalsely : Prop := polyQuietRow.holds Try.pinned (OpenSpec.ofChange polyQuietWrong)

/-- 'psalterylaw08.PolyForgets': WHATEVER THE INPUT: true; the input reads as it did. -/
def polyForgetsSpec : ChangeSpec := { name := "polyForgets", fn := fun _ => fun
  | [d1, d2, d3] => { results := [.lit (.bool true)], args := [d1, d2, d3] }
  | _ => none }
def polyForgetsRow : OpenClaim := { program := "ytphienllhdoenaa", sum := "eed3a9fcc7055d32944975225f6543fbe51a21c467dabdb0d9d30e88fee318a6", func := "psaltery/psalterylaw08.PolyForgets", spec := "polyForgets", inPlace := ["sync/atomic.AddInt64", "sync/atomic.LoadUint32", "(*internal/sync.Mutex).Lock", "internal/race.Disable", "sync/atomic.CompareAndSwapInt32", "internal/race.Enable", "internal/race.Acquire", "(*internal/sync.Mutex).lockSlow", "internal/sync.runtime_canSpin", "internal/sync.runtime_doSpin", "internal/sync.throw", "internal/sync.runtime_nanotime", "internal/sync.runtime_SemacquireMutex", "sync/atomic.AddInt32", "(*internal/sync.Mutex).Unlock", "internal/race.ReleaseMerge", "(*internal/sync.Mutex).unlockSlow", "internal/sync.fatal", "internal/sync.runtime_Semrelease", "sync/atomic.StoreUint32"], unfollowed := true, recurses := true, apart := false }
def PolyForgetsSaid : Prop := polyForgetsRow.holds Try.pinned (OpenSpec.ofChange polyForgetsSpec)

/-- ITS FALSE NEIGHBOUR: 'it returns false'. Refute it at one input. -/
def polyForgetsWrong : ChangeSpec := { name := "polyForgets", fn := fun _ => fun
  | [d1, d2, d3] => { results := [.lit (.bool false)], args := [d1, d2, d3] }
  | _ => none }
def PolyForgetsWrongFalsely : Prop := polyForgetsRow.holds Try.pinned (OpenSpec.ofChange polyForgetsWrong)

/-- 'psalterylaw08.PolyWrong': WHATEVER THE INPUT: true; the input reads as it did. -/
def polyWrongSpec : ChangeSpec := { name := "polyWrong", fn := fun _ => fun
  | [d1, d2] => { results := [.lit (.bool true)], args := [d1, d2] }
  | _ => none }
def polyWrongRow : OpenClaim := { program := "ytphienllhdoenaa", sum := "eed3a9fcc7055d32944975225f6543fbe51a21c467dabdb0d9d30e88fee318a6", func := "psaltery/psalterylaw08.PolyWrong", spec := "polyWrong", inPlace := ["sync/atomic.AddInt64", "sync/atomic.LoadUint32", "(*internal/sync.Mutex).Lock", "internal/race.Disable", "sync/atomic.CompareAndSwapInt32", "internal/race.Enable", "internal/race.Acquire", "(*internal/sync.Mutex).lockSlow", "internal/sync.runtime_canSpin", "internal/sync.runtime_doSpin", "internal/sync.throw", "internal/sync.runtime_nanotime", "internal/sync.runtime_SemacquireMutex", "sync/atomic.AddInt32", "(*internal/sync.Mutex).Unlock", "internal/race.ReleaseMerge", "(*internal/sync.Mutex).unlockSlow", "internal/sync.fatal", "internal/sync.runtime_Semrelease", "sync/atomic.StoreUint32"], unfollowed := true, recurses := true, apart := false }
def PolyWrongSaid : Prop := polyWrongRow.holds Try.pinned (OpenSpec.ofChange polyWrongSpec)

/-- ITS FALSE NEIGHBOUR: 'it returns false'. Refute it at one input. -/
def polyWrongWrong : ChangeSpec := { name := "polyWrong", fn := fun _ => fun
  | [d1, d2] => { results := [.lit (.bool false)], args := [d1, d2] }
  | _ => none }
def PolyWrongWrongFalsely : Prop := polyWrongRow.holds Try.pinned (OpenSpec.ofChange polyWrongWrong)

/-- 'psalterylaw09.LappedLaps': WHATEVER THE INPUT: true; the input reads as it did. -/
def lappedLapsSpec : ChangeSpec := { name := "lappedLaps", fn := fun _ => fun
  | [d1, d2] => { results := [.lit (.bool true)], args := [d1, d2] }
  | _ => none }
def lappedLapsRow : OpenClaim := { program := "ytphienllhdoenaa", sum := "eed3a9fcc7055d32944975225f6543fbe51a21c467dabdb0d9d30e88fee318a6", func := "psaltery/psalterylaw09.LappedLaps", spec := "lappedLaps", inPlace := ["sync/atomic.AddInt64", "sync/atomic.LoadUint32", "(*internal/sync.Mutex).Lock", "internal/race.Disable", "sync/atomic.CompareAndSwapInt32", "internal/race.Enable", "internal/race.Acquire", "(*internal/sync.Mutex).lockSlow", "internal/sync.runtime_canSpin", "internal/sync.runtime_doSpin", "internal/sync.throw", "internal/sync.runtime_nanotime", "internal/sync.runtime_SemacquireMutex", "sync/atomic.AddInt32", "(*internal/sync.Mutex).Unlock", "internal/race.ReleaseMerge", "(*internal/sync.Mutex).unlockSlow", "internal/sync.fatal", "internal/sync.runtime_Semrelease", "sync/atomic.StoreUint32"], unfollowed := true, recurses := true, apart := false }
def LappedLapsSaid : Prop := lappedLapsRow.holds Try.pinned (OpenSpec.ofChange lappedLapsSpec)

/-- ITS FALSE NEIGHBOUR: 'it returns false'. Refute it at one input. -/
def lappedLapsWrong : ChangeSpec := { name := "lappedLaps", fn := fun _ => fun
  | [d1, d2] => { results := [.lit (.bool false)], args := [d1, d2] }
  | _ => none }
def LappedLapsWrongFalsely : Prop := lappedLapsRow.holds Try.pinned (OpenSpec.ofChange lappedLapsWrong)

/-- 'psalterylaw09.LappedWindows': WHATEVER THE INPUT: true; the input reads as it did. -/
def lappedWindowsSpec : ChangeSpec := { name := "lappedWindows", fn := fun _ => fun
  | [d] => { results := [.lit (.bool true)], args := [d] }
  | _ => none }
def lappedWindowsRow : OpenClaim := { program := "ytphienllhdoenaa", sum := "eed3a9fcc7055d32944975225f6543fbe51a21c467dabdb0d9d30e88fee318a6", func := "psaltery/psalterylaw09.LappedWindows", spec := "lappedWindows", inPlace := ["sync/atomic.AddInt64", "sync/atomic.LoadUint32", "(*internal/sync.Mutex).Lock", "internal/race.Disable", "sync/atomic.CompareAndSwapInt32", "internal/race.Enable", "internal/race.Acquire", "(*internal/sync.Mutex).lockSlow", "internal/sync.runtime_canSpin", "internal/sync.runtime_doSpin", "internal/sync.throw", "internal/sync.runtime_nanotime", "internal/sync.runtime_SemacquireMutex", "sync/atomic.AddInt32", "(*internal/sync.Mutex).Unlock", "internal/race.ReleaseMerge", "(*internal/sync.Mutex).unlockSlow", "internal/sync.fatal", "internal/sync.runtime_Semrelease", "sync/atomic.StoreUint32"], unfollowed := true, recurses := true, apart := false }
def LappedWindowsSaid : Prop := lappedWindowsRow.holds Try.pinned (OpenSpec.ofChange lappedWindowsSpec)

/-- ITS FALSE NEIGHBOUR: 'it returns false'. Refute it at one input. -/
def lappedWindowsWrong : ChangeSpec := { name := "lappedWindows", fn := fun _ => fun
  | [d] => { results := [.lit (.bool false)], args := [d] }
  | _ => none }
def LappedWindowsWrongFalsely : Prop := lappedWindowsRow.holds Try.pinned (OpenSpec.ofChange lappedWindowsWrong)

/-- 'psalterylaw09.LappedUnlaps': WHATEVER THE INPUT: true; the input reads as it did. -/
def lappedUnlapsSpec : ChangeSpec := { name := "lappedUnlaps", fn := fun _ => fun
  | [d1, d2] => { results := [.lit (.bool true)], args := [d1, d2] }
  | _ => none }
def lappedUnlapsRow : OpenClaim := { program := "ytphienllhdoenaa", sum := "eed3a9fcc7055d32944975225f6543fbe51a21c467dabdb0d9d30e88fee318a6", func := "psaltery/psalterylaw09.LappedUnlaps", spec := "lappedUnlaps", inPlace := ["sync/atomic.AddInt64", "sync/atomic.LoadUint32", "(*internal/sync.Mutex).Lock", "internal/race.Disable", "sync/atomic.CompareAndSwapInt32", "internal/race.Enable", "internal/race.Acquire", "(*internal/sync.Mutex).lockSlow", "internal/sync.runtime_canSpin", "internal/sync.runtime_doSpin", "internal/sync.throw", "internal/sync.runtime_nanotime", "internal/sync.runtime_SemacquireMutex", "sync/atomic.AddInt32", "(*internal/sync.Mutex).Unlock", "internal/race.ReleaseMerge", "(*internal/sync.Mutex).unlockSlow", "internal/sync.fatal", "internal/sync.runtime_Semrelease", "sync/atomic.StoreUint32"], unfollowed := true, recurses := true, apart := false }
def LappedUnlapsSaid : Prop := lappedUnlapsRow.holds Try.pinned (OpenSpec.ofChange lappedUnlapsSpec)

/-- ITS FALSE NEIGHBOUR: 'it returns false'. Refute it at one input. -/
def lappedUnlapsWrong : ChangeSpec := { name := "lappedUnlaps", fn := fun _ => fun
  | [d1, d2] => { results := [.lit (.bool false)], args := [d1, d2] }
  | _ => none }
def LappedUnlapsWrongFalsely : Prop := lappedUnlapsRow.holds Try.pinned (OpenSpec.ofChange lappedUnlapsWrong)

/-- 'psalterylaw09.LappedForgets': WHATEVER THE INPUT: true; the input reads as it did. -/
def lappedForgetsSpec : ChangeSpec := { name := "lappedForgets", fn := fun _ => fun
  | [d1, d2, d3, d4] => { results := [.lit (.bool true)], args := [d1, d2, d3, d4] }
  | _ => none }
def lappedForgetsRow : OpenClaim := { program := "ytphienllhdoenaa", sum := "eed3a9fcc7055d32944975225f6543fbe51a21c467dabdb0d9d30e88fee318a6", func := "psaltery/psalterylaw09.LappedForgets", spec := "lappedForgets", inPlace := ["sync/atomic.AddInt64", "sync/atomic.LoadUint32", "(*internal/sync.Mutex).Lock", "internal/race.Disable", "sync/atomic.CompareAndSwapInt32", "internal/race.Enable", "internal/race.Acquire", "(*internal/sync.Mutex).lockSlow", "internal/sync.runtime_canSpin", "internal/sync.runtime_doSpin", "internal/sync.throw", "internal/sync.runtime_nanotime", "internal/sync.runtime_SemacquireMutex", "sync/atomic.AddInt32", "(*internal/sync.Mutex).Unlock", "internal/race.ReleaseMerge", "(*internal/sync.Mutex).unlockSlow", "internal/sync.fatal", "internal/sync.runtime_Semrelease", "sync/atomic.StoreUint32"], unfollowed := true, recurses := true, apart := false }
def LappedForgetsSaid : Prop := lappedForgetsRow.holds Try.pinned (OpenSpec.ofChange lappedForgetsSpec)

/-- ITS FALSE NEIGHBOUR: 'it returns false'. Refute it at one input. -/
def lappedForgetsWrong : ChangeSpec := { name := "lappedForgets", fn := fun _ => fun
  | [d1, d2, d3, d4] => { results := [.lit (.bool false)], args := [d1, d2, d3, d4] }
  | _ => none }
def LappedForgetsWrongFalsely : Prop := lappedForgetsRow.holds Try.pinned (OpenSpec.ofChange lappedForgetsWrong)

/- THE SECOND FORM. 'bulk': how many values and letters a reading holds, each counted each time it is reached (what is shared counts as often as it is met; a slice's spare places count too). A statement '..UptoSaid' is the law's where the arguments, and the package variables that the reading takes, are together of bulk at most 1048576: NARROWER than '..Said'. Prove '..Said' where nothing that the law and all that it calls make is longer than what came in: it says more and counts as full. Else prove '..UptoSaid'. A law counts once. -/
mutual
def uptoBulk {H : Type} : DataW H → Nat
  | .lit (.string bytes) => bytes.length + 1
  | .lit _ => 1
  | .nil => 1
  | .ptr d => uptoBulk d + 1
  | .slice elems spare => uptoBulkAll elems + uptoBulkAll spare + 1
  | .agg parts => uptoBulkAll parts + 1
  | .iface _ d => uptoBulk d + 1
  | .map entries => uptoBulkEntries entries + 1
  | .held _ => 1
def uptoBulkAll {H : Type} : List (DataW H) → Nat
  | [] => 0
  | d :: r => uptoBulk d + uptoBulkAll r
def uptoBulkEntries {H : Type} : List (Lit × DataW H) → Nat
  | [] => 0
  | x :: r => uptoBulkEntry x + uptoBulkEntries r
def uptoBulkEntry {H : Type} : Lit × DataW H → Nat
  | (.string bytes, d) => bytes.length + uptoBulk d + 1
  | (_, d) => uptoBulk d + 1
 end
def uptoSmall : (H : Type) → List (DataW H) → Bool := fun _ ds => decide (uptoBulkAll ds ≤ 1048576)
def OpenSpec.upto (s : _root_.Go.ChangeSpec) : _root_.Go.OpenSpec := { _root_.Go.OpenSpec.ofChange s with cond := some uptoSmall }

/-- 'psalterylaw08.PolySplits', WHERE WHAT IT READS IS OF BULK AT MOST 1048576: true; the input reads as it did. -/
def polySplitsUptoRow : OpenClaim := { program := "ytphienllhdoenaa", sum := "eed3a9fcc7055d32944975225f6543fbe51a21c467dabdb0d9d30e88fee318a6", func := "psaltery/psalterylaw08.PolySplits", spec := "polySplits", inPlace := ["sync/atomic.AddInt64", "sync/atomic.LoadUint32", "(*internal/sync.Mutex).Lock", "internal/race.Disable", "sync/atomic.CompareAndSwapInt32", "internal/race.Enable", "internal/race.Acquire", "(*internal/sync.Mutex).lockSlow", "internal/sync.runtime_canSpin", "internal/sync.runtime_doSpin", "internal/sync.throw", "internal/sync.runtime_nanotime", "internal/sync.runtime_SemacquireMutex", "sync/atomic.AddInt32", "(*internal/sync.Mutex).Unlock", "internal/race.ReleaseMerge", "(*internal/sync.Mutex).unlockSlow", "internal/sync.fatal", "internal/sync.runtime_Semrelease", "sync/atomic.StoreUint32"], unfollowed := true, recurses := true, apart := false, narrowed := true }
def PolySplitsUptoSaid : Prop := polySplitsUptoRow.holds Try.pinned (OpenSpec.upto polySplitsSpec)

/-- 'psalterylaw08.PolyJoins', WHERE WHAT IT READS IS OF BULK AT MOST 1048576: true; the input reads as it did. -/
def polyJoinsUptoRow : OpenClaim := { program := "ytphienllhdoenaa", sum := "eed3a9fcc7055d32944975225f6543fbe51a21c467dabdb0d9d30e88fee318a6", func := "psaltery/psalterylaw08.PolyJoins", spec := "polyJoins", inPlace := ["sync/atomic.AddInt64", "sync/atomic.LoadUint32", "(*internal/sync.Mutex).Lock", "internal/race.Disable", "sync/atomic.CompareAndSwapInt32", "internal/race.Enable", "internal/race.Acquire", "(*internal/sync.Mutex).lockSlow", "internal/sync.runtime_canSpin", "internal/sync.runtime_doSpin", "internal/sync.throw", "internal/sync.runtime_nanotime", "internal/sync.runtime_SemacquireMutex", "sync/atomic.AddInt32", "(*internal/sync.Mutex).Unlock", "internal/race.ReleaseMerge", "(*internal/sync.Mutex).unlockSlow", "internal/sync.fatal", "internal/sync.runtime_Semrelease", "sync/atomic.StoreUint32"], unfollowed := true, recurses := true, apart := false, narrowed := true }
def PolyJoinsUptoSaid : Prop := polyJoinsUptoRow.holds Try.pinned (OpenSpec.upto polyJoinsSpec)

/-- 'psalterylaw08.PolyQuiet', WHERE WHAT IT READS IS OF BULK AT MOST 1048576: true; the input reads as it did. -/
def polyQuietUptoRow : OpenClaim := { program := "ytphienllhdoenaa", sum := "eed3a9fcc7055d32944975225f6543fbe51a21c467dabdb0d9d30e88fee318a6", func := "psaltery/psalterylaw08.PolyQuiet", spec := "polyQuiet", inPlace := ["sync/atomic.AddInt64", "sync/atomic.LoadUint32", "(*internal/sync.Mutex).Lock", "internal/race.Disable", "sync/atomic.CompareAndSwapInt32", "internal/race.Enable", "internal/race.Acquire", "(*internal/sync.Mutex).lockSlow", "internal/sync.runtime_canSpin", "internal/sync.runtime_doSpin", "internal/sync.throw", "internal/sync.runtime_nanotime", "internal/sync.runtime_SemacquireMutex", "sync/atomic.AddInt32", "(*internal/sync.Mutex).Unlock", "internal/race.ReleaseMerge", "(*internal/sync.Mutex).unlockSlow", "internal/sync.fatal", "internal/sync.runtime_Semrelease", "sync/atomic.StoreUint32"], unfollowed := true, recurses := true, apart := false, narrowed := true }
def PolyQuietUptoSaid : Prop := polyQuietUptoRow.holds Try.pinned (OpenSpec.upto polyQuietSpec)

/-- 'psalterylaw08.PolyForgets', WHERE WHAT IT READS IS OF BULK AT MOST 1048576: true; the input reads as it did. -/
def polyForgetsUptoRow : OpenClaim := { program := "ytphienllhdoenaa", sum := "eed3a9fcc7055d32944975225f6543fbe51a21c467dabdb0d9d30e88fee318a6", func := "psaltery/psalterylaw08.PolyForgets", spec := "polyForgets", inPlace := ["sync/atomic.AddInt64", "sync/atomic.LoadUint32", "(*internal/sync.Mutex).Lock", "internal/race.Disable", "sync/atomic.CompareAndSwapInt32", "internal/race.Enable", "internal/race.Acquire", "(*internal/sync.Mutex).lockSlow", "internal/sync.runtime_canSpin", "internal/sync.runtime_doSpin", "internal/sync.throw", "internal/sync.runtime_nanotime", "internal/sync.runtime_SemacquireMutex", "sync/atomic.AddInt32", "(*internal/sync.Mutex).Unlock", "internal/race.ReleaseMerge", "(*internal/sync.Mutex).unlockSlow", "internal/sync.fatal", "internal/sync.runtime_Semrelease", "sync/atomic.StoreUint32"], unfollowed := true, recurses := true, apart := false, narrowed := true }
def PolyForgetsUptoSaid : Prop := polyForgetsUptoRow.holds Try.pinned (OpenSpec.upto polyForgetsSpec)

/-- 'psalterylaw08.PolyWrong', WHERE WHAT IT READS IS OF BULK AT MOST 1048576: true; the input reads as it did. -/
def polyWrongUptoRow : OpenClaim := { program := "ytphienllhdoenaa", sum := "eed3a9fcc7055d32944975225f6543fbe51a21c467dabdb0d9d30e88fee318a6", func := "psaltery/psalterylaw08.PolyWrong", spec := "polyWrong", inPlace := ["sync/atomic.AddInt64", "sync/atomic.LoadUint32", "(*internal/sync.Mutex).Lock", "internal/race.Disable", "sync/atomic.CompareAndSwapInt32", "internal/race.Enable", "internal/race.Acquire", "(*internal/sync.Mutex).lockSlow", "internal/sync.runtime_canSpin", "internal/sync.runtime_doSpin", "internal/sync.throw", "internal/sync.runtime_nanotime", "internal/sync.runtime_SemacquireMutex", "sync/atomic.AddInt32", "(*internal/sync.Mutex).Unlock", "internal/race.ReleaseMerge", "(*internal/sync.Mutex).unlockSlow", "internal/sync.fatal", "internal/sync.runtime_Semrelease", "sync/atomic.StoreUint32"], unfollowed := true, recurses := true, apart := false, narrowed := true }
def PolyWrongUptoSaid : Prop := polyWrongUptoRow.holds Try.pinned (OpenSpec.upto polyWrongSpec)

/-- 'psalterylaw09.LappedLaps', WHERE WHAT IT READS IS OF BULK AT MOST 1048576: true; the input reads as it did. -/
def lappedLapsUptoRow : OpenClaim := { program := "ytphienllhdoenaa", sum := "eed3a9fcc7055d32944975225f6543fbe51a21c467dabdb0d9d30e88fee318a6", func := "psaltery/psalterylaw09.LappedLaps", spec := "lappedLaps", inPlace := ["sync/atomic.AddInt64", "sync/atomic.LoadUint32", "(*internal/sync.Mutex).Lock", "internal/race.Disable", "sync/atomic.CompareAndSwapInt32", "internal/race.Enable", "internal/race.Acquire", "(*internal/sync.Mutex).lockSlow", "internal/sync.runtime_canSpin", "internal/sync.runtime_doSpin", "internal/sync.throw", "internal/sync.runtime_nanotime", "internal/sync.runtime_SemacquireMutex", "sync/atomic.AddInt32", "(*internal/sync.Mutex).Unlock", "internal/race.ReleaseMerge", "(*internal/sync.Mutex).unlockSlow", "internal/sync.fatal", "internal/sync.runtime_Semrelease", "sync/atomic.StoreUint32"], unfollowed := true, recurses := true, apart := false, narrowed := true }
def LappedLapsUptoSaid : Prop := lappedLapsUptoRow.holds Try.pinned (OpenSpec.upto lappedLapsSpec)

/-- 'psalterylaw09.LappedWindows', WHERE WHAT IT READS IS OF BULK AT MOST 1048576: true; the input reads as it did. -/
def lappedWindowsUptoRow : OpenClaim := { program := "ytphienllhdoenaa", sum := "eed3a9fcc7055d32944975225f6543fbe51a21c467dabdb0d9d30e88fee318a6", func := "psaltery/psalterylaw09.LappedWindows", spec := "lappedWindows", inPlace := ["sync/atomic.AddInt64", "sync/atomic.LoadUint32", "(*internal/sync.Mutex).Lock", "internal/race.Disable", "sync/atomic.CompareAndSwapInt32", "internal/race.Enable", "internal/race.Acquire", "(*internal/sync.Mutex).lockSlow", "internal/sync.runtime_canSpin", "internal/sync.runtime_doSpin", "internal/sync.throw", "internal/sync.runtime_nanotime", "internal/sync.runtime_SemacquireMutex", "sync/atomic.AddInt32", "(*internal/sync.Mutex).Unlock", "internal/race.ReleaseMerge", "(*internal/sync.Mutex).unlockSlow", "internal/sync.fatal", "internal/sync.runtime_Semrelease", "sync/atomic.StoreUint32"], unfollowed := true, recurses := true, apart := false, narrowed := true }
def LappedWindowsUptoSaid : Prop := lappedWindowsUptoRow.holds Try.pinned (OpenSpec.upto lappedWindowsSpec)

/-- 'psalterylaw09.LappedUnlaps', WHERE WHAT IT READS IS OF BULK AT MOST 1048576: true; the input reads as it did. -/
def lappedUnlapsUptoRow : OpenClaim := { program := "ytphienllhdoenaa", sum := "eed3a9fcc7055d32944975225f6543fbe51a21c467dabdb0d9d30e88fee318a6", func := "psaltery/psalterylaw09.LappedUnlaps", spec := "lappedUnlaps", inPlace := ["sync/atomic.AddInt64", "sync/atomic.LoadUint32", "(*internal/sync.Mutex).Lock", "internal/race.Disable", "sync/atomic.CompareAndSwapInt32", "internal/race.Enable", "internal/race.Acquire", "(*internal/sync.Mutex).lockSlow", "internal/sync.runtime_canSpin", "internal/sync.runtime_doSpin", "internal/sync.throw", "internal/sync.runtime_nanotime", "internal/sync.runtime_SemacquireMutex", "sync/atomic.AddInt32", "(*internal/sync.Mutex).Unlock", "internal/race.ReleaseMerge", "(*internal/sync.Mutex).unlockSlow", "internal/sync.fatal", "internal/sync.runtime_Semrelease", "sync/atomic.StoreUint32"], unfollowed := true, recurses := true, apart := false, narrowed := true }
def LappedUnlapsUptoSaid : Prop := lappedUnlapsUptoRow.holds Try.pinned (OpenSpec.upto lappedUnlapsSpec)

/-- 'psalterylaw09.LappedForgets', WHERE WHAT IT READS IS OF BULK AT MOST 1048576: true; the input reads as it did. -/
def lappedForgetsUptoRow : OpenClaim := { program := "ytphienllhdoenaa", sum := "eed3a9fcc7055d32944975225f6543fbe51a21c467dabdb0d9d30e88fee318a6", func := "psaltery/psalterylaw09.LappedForgets", spec := "lappedForgets", inPlace := ["sync/atomic.AddInt64", "sync/atomic.LoadUint32", "(*internal/sync.Mutex).Lock", "internal/race.Disable", "sync/atomic.CompareAndSwapInt32", "internal/race.Enable", "internal/race.Acquire", "(*internal/sync.Mutex).lockSlow", "internal/sync.runtime_canSpin", "internal/sync.runtime_doSpin", "internal/sync.throw", "internal/sync.runtime_nanotime", "internal/sync.runtime_SemacquireMutex", "sync/atomic.AddInt32", "(*internal/sync.Mutex).Unlock", "internal/race.ReleaseMerge", "(*internal/sync.Mutex).unlockSlow", "internal/sync.fatal", "internal/sync.runtime_Semrelease", "sync/atomic.StoreUint32"], unfollowed := true, recurses := true, apart := false, narrowed := true }
def LappedForgetsUptoSaid : Prop := lappedForgetsUptoRow.holds Try.pinned (OpenSpec.upto lappedForgetsSpec)

end Rows
end Go.Proofs.Ytphienllhdoenaa
