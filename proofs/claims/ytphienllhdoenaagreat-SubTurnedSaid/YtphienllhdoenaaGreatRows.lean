/-
  No cell of these rows narrows 'for every input' (looked for: loops, veiled, ifaces, maps, wideKeys, modest, calm, conditions, laid).
  DERIVED. THE GIVEN ROWS OF THIS SEAT. 8 by the template 'for every input the law returns true; each argument reads behind the call as it read before'; 0 by the template 'total and deterministic' (their statements: YtphienllhdoenaaGreatTotals.lean).
  GIVEN WITH THE SEED: the statements are not yours to turn. If you find one false, say at which input.
  Laid BY PROGRAM, IN A SANDBOX (cutbox-rows.mjs): the forced cells as the released guide's own fill.sh prints them over the translation fb7d9ed16edc409b… (all of the seat's roots in one cut). By AI agents, Wed Nov 11 2026. No macro, syntax, notation, axiom, sorry.
-/
import Derived.Test.YtphienllhdoenaaGreatChecked
import GoSem.Claim
import GoSem.ClaimJoined
import GoSem.ClaimMapViews
import Derived.JoinedTies
import Derived.KernelRfl
namespace Go.Proofs.YtphienllhdoenaaGreat
/- THE CELL 'sum', in the pinned program and in every row, IS THE sha256 OF THE DUMP (.gsa) THAT YtphienllhdoenaaGreatProg.lean LOADS. Nothing in Lean hashes anything: it is a label: what it is worth is what the hold of that sum in a sandbox is worth. -/
noncomputable def Tryz.pinned : Pinned := { name := "ytphienllhdoenaagreat", sum := "fb7d9ed16edc409b7c940b32da62fd05d446a9ea45e50bd5729fcc1fd8248c4b", checked := Tryz.checked }
namespace Rows
def none {H : Type} : Left H := { results := [], args := [] }

/-- 'psalterylaw14.SubPacks': WHATEVER THE INPUT: true; the input reads as it did. -/
def subPacksSpec : ChangeSpec := { name := "subPacks", fn := fun _ => fun
  | [d1, d2, d3] => { results := [.lit (.bool true)], args := [d1, d2, d3] }
  | _ => none }
def subPacksRow : OpenClaim := { program := "ytphienllhdoenaagreat", sum := "fb7d9ed16edc409b7c940b32da62fd05d446a9ea45e50bd5729fcc1fd8248c4b", func := "psaltery/psalterylaw14.SubPacks", spec := "subPacks", inPlace := ["sync/atomic.AddInt64", "sync/atomic.LoadUint32", "(*internal/sync.Mutex).Lock", "internal/race.Disable", "sync/atomic.CompareAndSwapInt32", "internal/race.Enable", "internal/race.Acquire", "(*internal/sync.Mutex).lockSlow", "internal/sync.runtime_canSpin", "internal/sync.runtime_doSpin", "internal/sync.throw", "internal/sync.runtime_nanotime", "internal/sync.runtime_SemacquireMutex", "sync/atomic.AddInt32", "(*internal/sync.Mutex).Unlock", "internal/race.ReleaseMerge", "(*internal/sync.Mutex).unlockSlow", "internal/sync.fatal", "internal/sync.runtime_Semrelease", "sync/atomic.StoreUint32"], unfollowed := true, recurses := true, apart := false }
def SubPacksSaid : Prop := subPacksRow.holds Tryz.pinned (OpenSpec.ofChange subPacksSpec)

/-- ITS FALSE NEIGHBOUR: 'it returns false'. Refute it at one input. -/
def subPacksWrong : ChangeSpec := { name := "subPacks", fn := fun _ => fun
  | [d1, d2, d3] => { results := [.lit (.bool false)], args := [d1, d2, d3] }
  | _ => none }
def SubPacksWrongFalsely : Prop := subPacksRow.holds Tryz.pinned (OpenSpec.ofChange subPacksWrong)

/-- 'psalterylaw14.SubFrames': WHATEVER THE INPUT: true; the input reads as it did. -/
def subFramesSpec : ChangeSpec := { name := "subFrames", fn := fun _ => fun
  | [d1, d2] => { results := [.lit (.bool true)], args := [d1, d2] }
  | _ => none }
def subFramesRow : OpenClaim := { program := "ytphienllhdoenaagreat", sum := "fb7d9ed16edc409b7c940b32da62fd05d446a9ea45e50bd5729fcc1fd8248c4b", func := "psaltery/psalterylaw14.SubFrames", spec := "subFrames", inPlace := ["sync/atomic.AddInt64", "sync/atomic.LoadUint32", "(*internal/sync.Mutex).Lock", "internal/race.Disable", "sync/atomic.CompareAndSwapInt32", "internal/race.Enable", "internal/race.Acquire", "(*internal/sync.Mutex).lockSlow", "internal/sync.runtime_canSpin", "internal/sync.runtime_doSpin", "internal/sync.throw", "internal/sync.runtime_nanotime", "internal/sync.runtime_SemacquireMutex", "sync/atomic.AddInt32", "(*internal/sync.Mutex).Unlock", "internal/race.ReleaseMerge", "(*internal/sync.Mutex).unlockSlow", "internal/sync.fatal", "internal/sync.runtime_Semrelease", "sync/atomic.StoreUint32"], unfollowed := true, recurses := true, apart := false }
def SubFramesSaid : Prop := subFramesRow.holds Tryz.pinned (OpenSpec.ofChange subFramesSpec)

/-- ITS FALSE NEIGHBOUR: 'it returns false'. Refute it at one input. -/
def subFramesWrong : ChangeSpec := { name := "subFrames", fn := fun _ => fun
  | [d1, d2] => { results := [.lit (.bool false)], args := [d1, d2] }
  | _ => none }
def SubFramesWrongFalsely : Prop := subFramesRow.holds Tryz.pinned (OpenSpec.ofChange subFramesWrong)

/-- 'psalterylaw14.SubTurned': WHATEVER THE INPUT: true; the input reads as it did. -/
def subTurnedSpec : ChangeSpec := { name := "subTurned", fn := fun _ => fun
  | [d1, d2, d3, d4, d5] => { results := [.lit (.bool true)], args := [d1, d2, d3, d4, d5] }
  | _ => none }
def subTurnedRow : OpenClaim := { program := "ytphienllhdoenaagreat", sum := "fb7d9ed16edc409b7c940b32da62fd05d446a9ea45e50bd5729fcc1fd8248c4b", func := "psaltery/psalterylaw14.SubTurned", spec := "subTurned", inPlace := ["sync/atomic.AddInt64", "sync/atomic.LoadUint32", "(*internal/sync.Mutex).Lock", "internal/race.Disable", "sync/atomic.CompareAndSwapInt32", "internal/race.Enable", "internal/race.Acquire", "(*internal/sync.Mutex).lockSlow", "internal/sync.runtime_canSpin", "internal/sync.runtime_doSpin", "internal/sync.throw", "internal/sync.runtime_nanotime", "internal/sync.runtime_SemacquireMutex", "sync/atomic.AddInt32", "(*internal/sync.Mutex).Unlock", "internal/race.ReleaseMerge", "(*internal/sync.Mutex).unlockSlow", "internal/sync.fatal", "internal/sync.runtime_Semrelease", "sync/atomic.StoreUint32"], unfollowed := true, recurses := true, apart := false }
def SubTurnedSaid : Prop := subTurnedRow.holds Tryz.pinned (OpenSpec.ofChange subTurnedSpec)

/-- ITS FALSE NEIGHBOUR: 'it returns false'. Refute it at one input. -/
def subTurnedWrong : ChangeSpec := { name := "subTurned", fn := fun _ => fun
  | [d1, d2, d3, d4, d5] => { results := [.lit (.bool false)], args := [d1, d2, d3, d4, d5] }
  | _ => none }
def SubTurnedWrongFalsely : Prop := subTurnedRow.holds Tryz.pinned (OpenSpec.ofChange subTurnedWrong)

/-- 'psalterylaw14.SubAnalyses': WHATEVER THE INPUT: true; the input reads as it did. -/
def subAnalysesSpec : ChangeSpec := { name := "subAnalyses", fn := fun _ => fun
  | [d1, d2, d3] => { results := [.lit (.bool true)], args := [d1, d2, d3] }
  | _ => none }
def subAnalysesRow : OpenClaim := { program := "ytphienllhdoenaagreat", sum := "fb7d9ed16edc409b7c940b32da62fd05d446a9ea45e50bd5729fcc1fd8248c4b", func := "psaltery/psalterylaw14.SubAnalyses", spec := "subAnalyses", inPlace := ["sync/atomic.AddInt64", "sync/atomic.LoadUint32", "(*internal/sync.Mutex).Lock", "internal/race.Disable", "sync/atomic.CompareAndSwapInt32", "internal/race.Enable", "internal/race.Acquire", "(*internal/sync.Mutex).lockSlow", "internal/sync.runtime_canSpin", "internal/sync.runtime_doSpin", "internal/sync.throw", "internal/sync.runtime_nanotime", "internal/sync.runtime_SemacquireMutex", "sync/atomic.AddInt32", "(*internal/sync.Mutex).Unlock", "internal/race.ReleaseMerge", "(*internal/sync.Mutex).unlockSlow", "internal/sync.fatal", "internal/sync.runtime_Semrelease", "sync/atomic.StoreUint32"], unfollowed := true, recurses := true, apart := false }
def SubAnalysesSaid : Prop := subAnalysesRow.holds Tryz.pinned (OpenSpec.ofChange subAnalysesSpec)

/-- ITS FALSE NEIGHBOUR: 'it returns false'. Refute it at one input. -/
def subAnalysesWrong : ChangeSpec := { name := "subAnalyses", fn := fun _ => fun
  | [d1, d2, d3] => { results := [.lit (.bool false)], args := [d1, d2, d3] }
  | _ => none }
def SubAnalysesWrongFalsely : Prop := subAnalysesRow.holds Tryz.pinned (OpenSpec.ofChange subAnalysesWrong)

/-- 'psalterylaw14.SubBack': WHATEVER THE INPUT: true; the input reads as it did. -/
def subBackSpec : ChangeSpec := { name := "subBack", fn := fun _ => fun
  | [d1, d2] => { results := [.lit (.bool true)], args := [d1, d2] }
  | _ => none }
def subBackRow : OpenClaim := { program := "ytphienllhdoenaagreat", sum := "fb7d9ed16edc409b7c940b32da62fd05d446a9ea45e50bd5729fcc1fd8248c4b", func := "psaltery/psalterylaw14.SubBack", spec := "subBack", inPlace := ["sync/atomic.AddInt64", "sync/atomic.LoadUint32", "(*internal/sync.Mutex).Lock", "internal/race.Disable", "sync/atomic.CompareAndSwapInt32", "internal/race.Enable", "internal/race.Acquire", "(*internal/sync.Mutex).lockSlow", "internal/sync.runtime_canSpin", "internal/sync.runtime_doSpin", "internal/sync.throw", "internal/sync.runtime_nanotime", "internal/sync.runtime_SemacquireMutex", "sync/atomic.AddInt32", "(*internal/sync.Mutex).Unlock", "internal/race.ReleaseMerge", "(*internal/sync.Mutex).unlockSlow", "internal/sync.fatal", "internal/sync.runtime_Semrelease", "sync/atomic.StoreUint32"], unfollowed := true, recurses := true, apart := false }
def SubBackSaid : Prop := subBackRow.holds Tryz.pinned (OpenSpec.ofChange subBackSpec)

/-- ITS FALSE NEIGHBOUR: 'it returns false'. Refute it at one input. -/
def subBackWrong : ChangeSpec := { name := "subBack", fn := fun _ => fun
  | [d1, d2] => { results := [.lit (.bool false)], args := [d1, d2] }
  | _ => none }
def SubBackWrongFalsely : Prop := subBackRow.holds Tryz.pinned (OpenSpec.ofChange subBackWrong)

/-- 'psalterylaw14.SubPlays': WHATEVER THE INPUT: true; the input reads as it did. -/
def subPlaysSpec : ChangeSpec := { name := "subPlays", fn := fun _ => fun
  | [d1, d2, d3] => { results := [.lit (.bool true)], args := [d1, d2, d3] }
  | _ => none }
def subPlaysRow : OpenClaim := { program := "ytphienllhdoenaagreat", sum := "fb7d9ed16edc409b7c940b32da62fd05d446a9ea45e50bd5729fcc1fd8248c4b", func := "psaltery/psalterylaw14.SubPlays", spec := "subPlays", inPlace := ["sync/atomic.AddInt64", "sync/atomic.LoadUint32", "(*internal/sync.Mutex).Lock", "internal/race.Disable", "sync/atomic.CompareAndSwapInt32", "internal/race.Enable", "internal/race.Acquire", "(*internal/sync.Mutex).lockSlow", "internal/sync.runtime_canSpin", "internal/sync.runtime_doSpin", "internal/sync.throw", "internal/sync.runtime_nanotime", "internal/sync.runtime_SemacquireMutex", "sync/atomic.AddInt32", "(*internal/sync.Mutex).Unlock", "internal/race.ReleaseMerge", "(*internal/sync.Mutex).unlockSlow", "internal/sync.fatal", "internal/sync.runtime_Semrelease", "sync/atomic.StoreUint32"], unfollowed := true, recurses := true, apart := false }
def SubPlaysSaid : Prop := subPlaysRow.holds Tryz.pinned (OpenSpec.ofChange subPlaysSpec)

/-- ITS FALSE NEIGHBOUR: 'it returns false'. Refute it at one input. -/
def subPlaysWrong : ChangeSpec := { name := "subPlays", fn := fun _ => fun
  | [d1, d2, d3] => { results := [.lit (.bool false)], args := [d1, d2, d3] }
  | _ => none }
def SubPlaysWrongFalsely : Prop := subPlaysRow.holds Tryz.pinned (OpenSpec.ofChange subPlaysWrong)

/-- 'psalterylaw14.SubNil': WHATEVER THE INPUT: true; the input reads as it did. -/
def subNilSpec : ChangeSpec := { name := "subNil", fn := fun _ => fun
  | [d1, d2] => { results := [.lit (.bool true)], args := [d1, d2] }
  | _ => none }
def subNilRow : OpenClaim := { program := "ytphienllhdoenaagreat", sum := "fb7d9ed16edc409b7c940b32da62fd05d446a9ea45e50bd5729fcc1fd8248c4b", func := "psaltery/psalterylaw14.SubNil", spec := "subNil", inPlace := ["sync/atomic.AddInt64", "sync/atomic.LoadUint32", "(*internal/sync.Mutex).Lock", "internal/race.Disable", "sync/atomic.CompareAndSwapInt32", "internal/race.Enable", "internal/race.Acquire", "(*internal/sync.Mutex).lockSlow", "internal/sync.runtime_canSpin", "internal/sync.runtime_doSpin", "internal/sync.throw", "internal/sync.runtime_nanotime", "internal/sync.runtime_SemacquireMutex", "sync/atomic.AddInt32", "(*internal/sync.Mutex).Unlock", "internal/race.ReleaseMerge", "(*internal/sync.Mutex).unlockSlow", "internal/sync.fatal", "internal/sync.runtime_Semrelease", "sync/atomic.StoreUint32"], unfollowed := true, recurses := true, apart := false }
def SubNilSaid : Prop := subNilRow.holds Tryz.pinned (OpenSpec.ofChange subNilSpec)

/-- ITS FALSE NEIGHBOUR: 'it returns false'. Refute it at one input. -/
def subNilWrong : ChangeSpec := { name := "subNil", fn := fun _ => fun
  | [d1, d2] => { results := [.lit (.bool false)], args := [d1, d2] }
  | _ => none }
def SubNilWrongFalsely : Prop := subNilRow.holds Tryz.pinned (OpenSpec.ofChange subNilWrong)

/-- 'psalterylaw14.SubAny': WHATEVER THE INPUT: true; the input reads as it did. -/
def subAnySpec : ChangeSpec := { name := "subAny", fn := fun _ => fun
  | [d1, d2] => { results := [.lit (.bool true)], args := [d1, d2] }
  | _ => none }
def subAnyRow : OpenClaim := { program := "ytphienllhdoenaagreat", sum := "fb7d9ed16edc409b7c940b32da62fd05d446a9ea45e50bd5729fcc1fd8248c4b", func := "psaltery/psalterylaw14.SubAny", spec := "subAny", inPlace := ["sync/atomic.AddInt64", "sync/atomic.LoadUint32", "(*internal/sync.Mutex).Lock", "internal/race.Disable", "sync/atomic.CompareAndSwapInt32", "internal/race.Enable", "internal/race.Acquire", "(*internal/sync.Mutex).lockSlow", "internal/sync.runtime_canSpin", "internal/sync.runtime_doSpin", "internal/sync.throw", "internal/sync.runtime_nanotime", "internal/sync.runtime_SemacquireMutex", "sync/atomic.AddInt32", "(*internal/sync.Mutex).Unlock", "internal/race.ReleaseMerge", "(*internal/sync.Mutex).unlockSlow", "internal/sync.fatal", "internal/sync.runtime_Semrelease", "sync/atomic.StoreUint32"], unfollowed := true, recurses := true, apart := false }
def SubAnySaid : Prop := subAnyRow.holds Tryz.pinned (OpenSpec.ofChange subAnySpec)

/-- ITS FALSE NEIGHBOUR: 'it returns false'. Refute it at one input. -/
def subAnyWrong : ChangeSpec := { name := "subAny", fn := fun _ => fun
  | [d1, d2] => { results := [.lit (.bool false)], args := [d1, d2] }
  | _ => none }
def SubAnyWrongFalsely : Prop := subAnyRow.holds Tryz.pinned (OpenSpec.ofChange subAnyWrong)

/- THE SECOND FORM. 'bulk': how many values and letters a reading holds, each counted each time it is reached (what is shared counts as often as it is met; a slice's spare places count too). A statement '..UptoSaid' is the law's where the arguments, and the package variables that the reading takes, are together of bulk at most 1048576: NARROWER than '..Said'. Prove '..Said' where nothing that the law and all that it calls make is longer than what came in: it says more and counts as full. Else prove '..UptoSaid'. A law counts once. -/
mutual
def uptoBulk {H : Type} : DataW H → Nat
  | .lit (.string bytes) => bytes.length + 1
  | .lit _ => 1
  | .nil => 1
  | .ptr d => uptoBulk d + 1
  | .slice elems spare => uptoBulkAll elems + uptoBulkAll spare + 1
  | .agg parts => uptoBulkAll parts + 1
  | .iface _ d => uptoBulk d + 1
  | .map entries => uptoBulkEntries entries + 1
  | .held _ => 1
def uptoBulkAll {H : Type} : List (DataW H) → Nat
  | [] => 0
  | d :: r => uptoBulk d + uptoBulkAll r
def uptoBulkEntries {H : Type} : List (Lit × DataW H) → Nat
  | [] => 0
  | x :: r => uptoBulkEntry x + uptoBulkEntries r
def uptoBulkEntry {H : Type} : Lit × DataW H → Nat
  | (.string bytes, d) => bytes.length + uptoBulk d + 1
  | (_, d) => uptoBulk d + 1
 end
def uptoSmall : (H : Type) → List (DataW H) → Bool := fun _ ds => decide (uptoBulkAll ds ≤ 1048576)
def OpenSpec.upto (s : _root_.Go.ChangeSpec) : _root_.Go.OpenSpec := { _root_.Go.OpenSpec.ofChange s with cond := some uptoSmall }

/-- 'psalterylaw14.SubPacks', WHERE WHAT IT READS IS OF BULK AT MOST 1048576: true; the input reads as it did. -/
def subPacksUptoRow : OpenClaim := { program := "ytphienllhdoenaagreat", sum := "fb7d9ed16edc409b7c940b32da62fd05d446a9ea45e50bd5729fcc1fd8248c4b", func := "psaltery/psalterylaw14.SubPacks", spec := "subPacks", inPlace := ["sync/atomic.AddInt64", "sync/atomic.LoadUint32", "(*internal/sync.Mutex).Lock", "internal/race.Disable", "sync/atomic.CompareAndSwapInt32", "internal/race.Enable", "internal/race.Acquire", "(*internal/sync.Mutex).lockSlow", "internal/sync.runtime_canSpin", "internal/sync.runtime_doSpin", "internal/sync.throw", "internal/sync.runtime_nanotime", "internal/sync.runtime_SemacquireMutex", "sync/atomic.AddInt32", "(*internal/sync.Mutex).Unlock", "internal/race.ReleaseMerge", "(*internal/sync.Mutex).unlockSlow", "internal/sync.fatal", "internal/sync.runtime_Semrelease", "sync/atomic.StoreUint32"], unfollowed := true, recurses := true, apart := false, narrowed := true }
def SubPacksUptoSaid : Prop := subPacksUptoRow.holds Tryz.pinned (OpenSpec.upto subPacksSpec)

/-- 'psalterylaw14.SubFrames', WHERE WHAT IT READS IS OF BULK AT MOST 1048576: true; the input reads as it did. -/
def subFramesUptoRow : OpenClaim := { program := "ytphienllhdoenaagreat", sum := "fb7d9ed16edc409b7c940b32da62fd05d446a9ea45e50bd5729fcc1fd8248c4b", func := "psaltery/psalterylaw14.SubFrames", spec := "subFrames", inPlace := ["sync/atomic.AddInt64", "sync/atomic.LoadUint32", "(*internal/sync.Mutex).Lock", "internal/race.Disable", "sync/atomic.CompareAndSwapInt32", "internal/race.Enable", "internal/race.Acquire", "(*internal/sync.Mutex).lockSlow", "internal/sync.runtime_canSpin", "internal/sync.runtime_doSpin", "internal/sync.throw", "internal/sync.runtime_nanotime", "internal/sync.runtime_SemacquireMutex", "sync/atomic.AddInt32", "(*internal/sync.Mutex).Unlock", "internal/race.ReleaseMerge", "(*internal/sync.Mutex).unlockSlow", "internal/sync.fatal", "internal/sync.runtime_Semrelease", "sync/atomic.StoreUint32"], unfollowed := true, recurses := true, apart := false, narrowed := true }
def SubFramesUptoSaid : Prop := subFramesUptoRow.holds Tryz.pinned (OpenSpec.upto subFramesSpec)

/-- 'psalterylaw14.SubTurned', WHERE WHAT IT READS IS OF BULK AT MOST 1048576: true; the input reads as it did. -/
def subTurnedUptoRow : OpenClaim := { program := "ytphienllhdoenaagreat", sum := "fb7d9ed16edc409b7c940b32da62fd05d446a9ea45e50bd5729fcc1fd8248c4b", func := "psaltery/psalterylaw14.SubTurned", spec := "subTurned", inPlace := ["sync/atomic.AddInt64", "sync/atomic.LoadUint32", "(*internal/sync.Mutex).Lock", "internal/race.Disable", "sync/atomic.CompareAndSwapInt32", "internal/race.Enable", "internal/race.Acquire", "(*internal/sync.Mutex).lockSlow", "internal/sync.runtime_canSpin", "internal/sync.runtime_doSpin", "internal/sync.throw", "internal/sync.runtime_nanotime", "internal/sync.runtime_SemacquireMutex", "sync/atomic.AddInt32", "(*internal/sync.Mutex).Unlock", "internal/race.ReleaseMerge", "(*internal/sync.Mutex).unlockSlow", "internal/sync.fatal", "internal/sync.runtime_Semrelease", "sync/atomic.StoreUint32"], unfollowed := true, recurses := true, apart := false, narrowed := true }
def SubTurnedUptoSaid : Prop := subTurnedUptoRow.holds Tryz.pinned (OpenSpec.upto subTurnedSpec)

/-- 'psalterylaw14.SubAnalyses', WHERE WHAT IT READS IS OF BULK AT MOST 1048576: true; the input reads as it did. -/
def subAnalysesUptoRow : OpenClaim := { program := "ytphienllhdoenaagreat", sum := "fb7d9ed16edc409b7c940b32da62fd05d446a9ea45e50bd5729fcc1fd8248c4b", func := "psaltery/psalterylaw14.SubAnalyses", spec := "subAnalyses", inPlace := ["sync/atomic.AddInt64", "sync/atomic.LoadUint32", "(*internal/sync.Mutex).Lock", "internal/race.Disable", "sync/atomic.CompareAndSwapInt32", "internal/race.Enable", "internal/race.Acquire", "(*internal/sync.Mutex).lockSlow", "internal/sync.runtime_canSpin", "internal/sync.runtime_doSpin", "internal/sync.throw", "internal/sync.runtime_nanotime", "internal/sync.runtime_SemacquireMutex", "sync/atomic.AddInt32", "(*internal/sync.Mutex).Unlock", "internal/race.ReleaseMerge", "(*internal/sync.Mutex).unlockSlow", "internal/sync.fatal", "internal/sync.runtime_Semrelease", "sync/atomic.StoreUint32"], unfollowed := true, recurses := true, apart := false, narrowed := true }
def SubAnalysesUptoSaid : Prop := subAnalysesUptoRow.holds Tryz.pinned (OpenSpec.upto subAnalysesSpec)

/-- 'psalterylaw14.SubBack', WHERE WHAT IT READS IS OF BULK AT MOST 1048576: true; the input reads as it did. -/
def subBackUptoRow : OpenClaim := { program := "ytphienllhdoenaagreat", sum := "fb7d9ed16edc409b7c940b32da62fd05d446a9ea45e50bd5729fcc1fd8248c4b", func := "psaltery/psalterylaw14.SubBack", spec := "subBack", inPlace := ["sync/atomic.AddInt64", "sync/atomic.LoadUint32", "(*internal/sync.Mutex).Lock", "internal/race.Disable", "sync/atomic.CompareAndSwapInt32", "internal/race.Enable", "internal/race.Acquire", "(*internal/sync.Mutex).lockSlow", "internal/sync.runtime_canSpin", "internal/sync.runtime_doSpin", "internal/sync.throw", "internal/sync.runtime_nanotime", "internal/sync.runtime_SemacquireMutex", "sync/atomic.AddInt32", "(*internal/sync.Mutex).Unlock", "internal/race.ReleaseMerge", "(*internal/sync.Mutex).unlockSlow", "internal/sync.fatal", "internal/sync.runtime_Semrelease", "sync/atomic.StoreUint32"], unfollowed := true, recurses := true, apart := false, narrowed := true }
def SubBackUptoSaid : Prop := subBackUptoRow.holds Tryz.pinned (OpenSpec.upto subBackSpec)

/-- 'psalterylaw14.SubPlays', WHERE WHAT IT READS IS OF BULK AT MOST 1048576: true; the input reads as it did. -/
def subPlaysUptoRow : OpenClaim := { program := "ytphienllhdoenaagreat", sum := "fb7d9ed16edc409b7c940b32da62fd05d446a9ea45e50bd5729fcc1fd8248c4b", func := "psaltery/psalterylaw14.SubPlays", spec := "subPlays", inPlace := ["sync/atomic.AddInt64", "sync/atomic.LoadUint32", "(*internal/sync.Mutex).Lock", "internal/race.Disable", "sync/atomic.CompareAndSwapInt32", "internal/race.Enable", "internal/race.Acquire", "(*internal/sync.Mutex).lockSlow", "internal/sync.runtime_canSpin", "internal/sync.runtime_doSpin", "internal/sync.throw", "internal/sync.runtime_nanotime", "internal/sync.runtime_SemacquireMutex", "sync/atomic.AddInt32", "(*internal/sync.Mutex).Unlock", "internal/race.ReleaseMerge", "(*internal/sync.Mutex).unlockSlow", "internal/sync.fatal", "internal/sync.runtime_Semrelease", "sync/atomic.StoreUint32"], unfollowed := true, recurses := true, apart := false, narrowed := true }
def SubPlaysUptoSaid : Prop := subPlaysUptoRow.holds Tryz.pinned (OpenSpec.upto subPlaysSpec)

/-- 'psalterylaw14.SubNil', WHERE WHAT IT READS IS OF BULK AT MOST 1048576: true; the input reads as it did. -/
def subNilUptoRow : OpenClaim := { program := "ytphienllhdoenaagreat", sum := "fb7d9ed16edc409b7c940b32da62fd05d446a9ea45e50bd5729fcc1fd8248c4b", func := "psaltery/psalterylaw14.SubNil", spec := "subNil", inPlace := ["sync/atomic.AddInt64", "sync/atomic.LoadUint32", "(*internal/sync.Mutex).Lock", "internal/race.Disable", "sync/atomic.CompareAndSwapInt32", "internal/race.Enable", "internal/race.Acquire", "(*internal/sync.Mutex).lockSlow", "internal/sync.runtime_canSpin", "internal/sync.runtime_doSpin", "internal/sync.throw", "internal/sync.runtime_nanotime", "internal/sync.runtime_SemacquireMutex", "sync/atomic.AddInt32", "(*internal/sync.Mutex).Unlock", "internal/race.ReleaseMerge", "(*internal/sync.Mutex).unlockSlow", "internal/sync.fatal", "internal/sync.runtime_Semrelease", "sync/atomic.StoreUint32"], unfollowed := true, recurses := true, apart := false, narrowed := true }
def SubNilUptoSaid : Prop := subNilUptoRow.holds Tryz.pinned (OpenSpec.upto subNilSpec)

/-- 'psalterylaw14.SubAny', WHERE WHAT IT READS IS OF BULK AT MOST 1048576: true; the input reads as it did. -/
def subAnyUptoRow : OpenClaim := { program := "ytphienllhdoenaagreat", sum := "fb7d9ed16edc409b7c940b32da62fd05d446a9ea45e50bd5729fcc1fd8248c4b", func := "psaltery/psalterylaw14.SubAny", spec := "subAny", inPlace := ["sync/atomic.AddInt64", "sync/atomic.LoadUint32", "(*internal/sync.Mutex).Lock", "internal/race.Disable", "sync/atomic.CompareAndSwapInt32", "internal/race.Enable", "internal/race.Acquire", "(*internal/sync.Mutex).lockSlow", "internal/sync.runtime_canSpin", "internal/sync.runtime_doSpin", "internal/sync.throw", "internal/sync.runtime_nanotime", "internal/sync.runtime_SemacquireMutex", "sync/atomic.AddInt32", "(*internal/sync.Mutex).Unlock", "internal/race.ReleaseMerge", "(*internal/sync.Mutex).unlockSlow", "internal/sync.fatal", "internal/sync.runtime_Semrelease", "sync/atomic.StoreUint32"], unfollowed := true, recurses := true, apart := false, narrowed := true }
def SubAnyUptoSaid : Prop := subAnyUptoRow.holds Tryz.pinned (OpenSpec.upto subAnySpec)

end Rows
end Go.Proofs.YtphienllhdoenaaGreat
