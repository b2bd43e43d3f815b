/-
  No cell of these rows narrows 'for every input' (looked for: loops, veiled, ifaces, maps, wideKeys, modest, calm, conditions, laid).
  DERIVED. THE GIVEN ROWS OF THIS SEAT. 18 by the template 'for every input the law returns true; each argument reads behind the call as it read before'; 0 by the template 'total and deterministic' (their statements: YtcaehpgdcjonfaaTotals.lean).
  GIVEN WITH THE SEED: the statements are not yours to turn. If you find one false, say at which input.
  Laid BY PROGRAM, IN A SANDBOX (cutbox-rows.mjs): the forced cells as the released guide's own fill.sh prints them over the translation 5c2a0d837b57282e… (all of the seat's roots in one cut). By AI agents, Wed Nov 11 2026. No macro, syntax, notation, axiom, sorry.
-/
import Derived.Test.YtcaehpgdcjonfaaChecked
import GoSem.Claim
import GoSem.ClaimJoined
import GoSem.ClaimMapViews
import Derived.JoinedTies
import Derived.KernelRfl
namespace Go.Proofs.Ytcaehpgdcjonfaa
/- THE CELL 'sum', in the pinned program and in every row, IS THE sha256 OF THE DUMP (.gsa) THAT YtcaehpgdcjonfaaProg.lean LOADS. Nothing in Lean hashes anything: it is a label: what it is worth is what the hold of that sum in a sandbox is worth. -/
noncomputable def Try.pinned : Pinned := { name := "ytcaehpgdcjonfaa", sum := "5c2a0d837b57282e0460afa7e244c445c4eaf7699dba059f69c7932fbc8434a6", checked := Try.checked }
namespace Rows
def none {H : Type} : Left H := { results := [], args := [] }

/-- 'psalterylaw32.WeatherPlays': WHATEVER THE INPUT: true; the input reads as it did. -/
def weatherPlaysSpec : ChangeSpec := { name := "weatherPlays", fn := fun _ => fun
  | [d1, d2, d3] => { results := [.lit (.bool true)], args := [d1, d2, d3] }
  | _ => none }
def weatherPlaysRow : OpenClaim := { program := "ytcaehpgdcjonfaa", sum := "5c2a0d837b57282e0460afa7e244c445c4eaf7699dba059f69c7932fbc8434a6", func := "psaltery/psalterylaw32.WeatherPlays", spec := "weatherPlays", apart := false }
def WeatherPlaysSaid : Prop := weatherPlaysRow.holds Try.pinned (OpenSpec.ofChange weatherPlaysSpec)

/-- ITS FALSE NEIGHBOUR: 'it returns false'. Refute it at one input. -/
def weatherPlaysWrong : ChangeSpec := { name := "weatherPlays", fn := fun _ => fun
  | [d1, d2, d3] => { results := [.lit (.bool false)], args := [d1, d2, d3] }
  | _ => none }
def WeatherPlaysWrongFalsely : Prop := weatherPlaysRow.holds Try.pinned (OpenSpec.ofChange weatherPlaysWrong)

/-- 'psalterylaw32.WeatherEnds': WHATEVER THE INPUT: true; the input reads as it did. -/
def weatherEndsSpec : ChangeSpec := { name := "weatherEnds", fn := fun _ => fun
  | [d1, d2, d3] => { results := [.lit (.bool true)], args := [d1, d2, d3] }
  | _ => none }
def weatherEndsRow : OpenClaim := { program := "ytcaehpgdcjonfaa", sum := "5c2a0d837b57282e0460afa7e244c445c4eaf7699dba059f69c7932fbc8434a6", func := "psaltery/psalterylaw32.WeatherEnds", spec := "weatherEnds", apart := false }
def WeatherEndsSaid : Prop := weatherEndsRow.holds Try.pinned (OpenSpec.ofChange weatherEndsSpec)

/-- ITS FALSE NEIGHBOUR: 'it returns false'. Refute it at one input. -/
def weatherEndsWrong : ChangeSpec := { name := "weatherEnds", fn := fun _ => fun
  | [d1, d2, d3] => { results := [.lit (.bool false)], args := [d1, d2, d3] }
  | _ => none }
def WeatherEndsWrongFalsely : Prop := weatherEndsRow.holds Try.pinned (OpenSpec.ofChange weatherEndsWrong)

/-- 'psalterylaw32.WeatherNil': WHATEVER THE INPUT: true; the input reads as it did. -/
def weatherNilSpec : ChangeSpec := { name := "weatherNil", fn := fun _ => fun
  | [d] => { results := [.lit (.bool true)], args := [d] }
  | _ => none }
def weatherNilRow : OpenClaim := { program := "ytcaehpgdcjonfaa", sum := "5c2a0d837b57282e0460afa7e244c445c4eaf7699dba059f69c7932fbc8434a6", func := "psaltery/psalterylaw32.WeatherNil", spec := "weatherNil", apart := false }
def WeatherNilSaid : Prop := weatherNilRow.holds Try.pinned (OpenSpec.ofChange weatherNilSpec)

/-- ITS FALSE NEIGHBOUR: 'it returns false'. Refute it at one input. -/
def weatherNilWrong : ChangeSpec := { name := "weatherNil", fn := fun _ => fun
  | [d] => { results := [.lit (.bool false)], args := [d] }
  | _ => none }
def WeatherNilWrongFalsely : Prop := weatherNilRow.holds Try.pinned (OpenSpec.ofChange weatherNilWrong)

/-- 'psalterylaw11.FormTells': WHATEVER THE INPUT: true; the input reads as it did. -/
def formTellsSpec : ChangeSpec := { name := "formTells", fn := fun _ => fun
  | [d] => { results := [.lit (.bool true)], args := [d] }
  | _ => none }
def formTellsRow : OpenClaim := { program := "ytcaehpgdcjonfaa", sum := "5c2a0d837b57282e0460afa7e244c445c4eaf7699dba059f69c7932fbc8434a6", func := "psaltery/psalterylaw11.FormTells", spec := "formTells", unfollowed := true, recurses := true, apart := false }
def FormTellsSaid : Prop := formTellsRow.holds Try.pinned (OpenSpec.ofChange formTellsSpec)

/-- ITS FALSE NEIGHBOUR: 'it returns false'. Refute it at one input. -/
def formTellsWrong : ChangeSpec := { name := "formTells", fn := fun _ => fun
  | [d] => { results := [.lit (.bool false)], args := [d] }
  | _ => none }
def FormTellsWrongFalsely : Prop := formTellsRow.holds Try.pinned (OpenSpec.ofChange formTellsWrong)

/-- 'psalterylaw11.FormEnds': WHATEVER THE INPUT: true; the input reads as it did. -/
def formEndsSpec : ChangeSpec := { name := "formEnds", fn := fun _ => fun
  | [d] => { results := [.lit (.bool true)], args := [d] }
  | _ => none }
def formEndsRow : OpenClaim := { program := "ytcaehpgdcjonfaa", sum := "5c2a0d837b57282e0460afa7e244c445c4eaf7699dba059f69c7932fbc8434a6", func := "psaltery/psalterylaw11.FormEnds", spec := "formEnds", unfollowed := true, recurses := true, apart := false }
def FormEndsSaid : Prop := formEndsRow.holds Try.pinned (OpenSpec.ofChange formEndsSpec)

/-- ITS FALSE NEIGHBOUR: 'it returns false'. Refute it at one input. -/
def formEndsWrong : ChangeSpec := { name := "formEnds", fn := fun _ => fun
  | [d] => { results := [.lit (.bool false)], args := [d] }
  | _ => none }
def FormEndsWrongFalsely : Prop := formEndsRow.holds Try.pinned (OpenSpec.ofChange formEndsWrong)

/-- 'psalterylaw11.FormatOnly': WHATEVER THE INPUT: true; the input reads as it did. -/
def formatOnlySpec : ChangeSpec := { name := "formatOnly", fn := fun _ => fun
  | [d1, d2] => { results := [.lit (.bool true)], args := [d1, d2] }
  | _ => none }
def formatOnlyRow : OpenClaim := { program := "ytcaehpgdcjonfaa", sum := "5c2a0d837b57282e0460afa7e244c445c4eaf7699dba059f69c7932fbc8434a6", func := "psaltery/psalterylaw11.FormatOnly", spec := "formatOnly", unfollowed := true, recurses := true, apart := false }
def FormatOnlySaid : Prop := formatOnlyRow.holds Try.pinned (OpenSpec.ofChange formatOnlySpec)

/-- ITS FALSE NEIGHBOUR: 'it returns false'. Refute it at one input. -/
def formatOnlyWrong : ChangeSpec := { name := "formatOnly", fn := fun _ => fun
  | [d1, d2] => { results := [.lit (.bool false)], args := [d1, d2] }
  | _ => none }
def FormatOnlyWrongFalsely : Prop := formatOnlyRow.holds Try.pinned (OpenSpec.ofChange formatOnlyWrong)

/-- 'psalterylaw23.CapsBack': WHATEVER THE INPUT: true; the input reads as it did. -/
def capsBackSpec : ChangeSpec := { name := "capsBack", fn := fun _ => fun
  | [d1, d2, d3] => { results := [.lit (.bool true)], args := [d1, d2, d3] }
  | _ => none }
def capsBackRow : OpenClaim := { program := "ytcaehpgdcjonfaa", sum := "5c2a0d837b57282e0460afa7e244c445c4eaf7699dba059f69c7932fbc8434a6", func := "psaltery/psalterylaw23.CapsBack", spec := "capsBack", apart := false }
def CapsBackSaid : Prop := capsBackRow.holds Try.pinned (OpenSpec.ofChange capsBackSpec)

/-- ITS FALSE NEIGHBOUR: 'it returns false'. Refute it at one input. -/
def capsBackWrong : ChangeSpec := { name := "capsBack", fn := fun _ => fun
  | [d1, d2, d3] => { results := [.lit (.bool false)], args := [d1, d2, d3] }
  | _ => none }
def CapsBackWrongFalsely : Prop := capsBackRow.holds Try.pinned (OpenSpec.ofChange capsBackWrong)

/-- 'psalterylaw23.CapsMore': WHATEVER THE INPUT: true; the input reads as it did. -/
def capsMoreSpec : ChangeSpec := { name := "capsMore", fn := fun _ => fun
  | [d1, d2, d3, d4] => { results := [.lit (.bool true)], args := [d1, d2, d3, d4] }
  | _ => none }
def capsMoreRow : OpenClaim := { program := "ytcaehpgdcjonfaa", sum := "5c2a0d837b57282e0460afa7e244c445c4eaf7699dba059f69c7932fbc8434a6", func := "psaltery/psalterylaw23.CapsMore", spec := "capsMore", apart := false }
def CapsMoreSaid : Prop := capsMoreRow.holds Try.pinned (OpenSpec.ofChange capsMoreSpec)

/-- ITS FALSE NEIGHBOUR: 'it returns false'. Refute it at one input. -/
def capsMoreWrong : ChangeSpec := { name := "capsMore", fn := fun _ => fun
  | [d1, d2, d3, d4] => { results := [.lit (.bool false)], args := [d1, d2, d3, d4] }
  | _ => none }
def CapsMoreWrongFalsely : Prop := capsMoreRow.holds Try.pinned (OpenSpec.ofChange capsMoreWrong)

/-- 'psalterylaw23.CapsTells': WHATEVER THE INPUT: true; the input reads as it did. -/
def capsTellsSpec : ChangeSpec := { name := "capsTells", fn := fun _ => fun
  | [d1, d2, d3] => { results := [.lit (.bool true)], args := [d1, d2, d3] }
  | _ => none }
def capsTellsRow : OpenClaim := { program := "ytcaehpgdcjonfaa", sum := "5c2a0d837b57282e0460afa7e244c445c4eaf7699dba059f69c7932fbc8434a6", func := "psaltery/psalterylaw23.CapsTells", spec := "capsTells", apart := false }
def CapsTellsSaid : Prop := capsTellsRow.holds Try.pinned (OpenSpec.ofChange capsTellsSpec)

/-- ITS FALSE NEIGHBOUR: 'it returns false'. Refute it at one input. -/
def capsTellsWrong : ChangeSpec := { name := "capsTells", fn := fun _ => fun
  | [d1, d2, d3] => { results := [.lit (.bool false)], args := [d1, d2, d3] }
  | _ => none }
def CapsTellsWrongFalsely : Prop := capsTellsRow.holds Try.pinned (OpenSpec.ofChange capsTellsWrong)

/-- 'psalterylaw12.AllocShares': WHATEVER THE INPUT: true; the input reads as it did. -/
def allocSharesSpec : ChangeSpec := { name := "allocShares", fn := fun _ => fun
  | [d1, d2] => { results := [.lit (.bool true)], args := [d1, d2] }
  | _ => none }
def allocSharesRow : OpenClaim := { program := "ytcaehpgdcjonfaa", sum := "5c2a0d837b57282e0460afa7e244c445c4eaf7699dba059f69c7932fbc8434a6", func := "psaltery/psalterylaw12.AllocShares", spec := "allocShares", unfollowed := true, recurses := true, apart := false }
def AllocSharesSaid : Prop := allocSharesRow.holds Try.pinned (OpenSpec.ofChange allocSharesSpec)

/-- ITS FALSE NEIGHBOUR: 'it returns false'. Refute it at one input. -/
def allocSharesWrong : ChangeSpec := { name := "allocShares", fn := fun _ => fun
  | [d1, d2] => { results := [.lit (.bool false)], args := [d1, d2] }
  | _ => none }
def AllocSharesWrongFalsely : Prop := allocSharesRow.holds Try.pinned (OpenSpec.ofChange allocSharesWrong)

/-- 'psalterylaw04.BankTells': WHATEVER THE INPUT: true; the input reads as it did. -/
def bankTellsSpec : ChangeSpec := { name := "bankTells", fn := fun _ => fun
  | [d] => { results := [.lit (.bool true)], args := [d] }
  | _ => none }
def bankTellsRow : OpenClaim := { program := "ytcaehpgdcjonfaa", sum := "5c2a0d837b57282e0460afa7e244c445c4eaf7699dba059f69c7932fbc8434a6", func := "psaltery/psalterylaw04.BankTells", spec := "bankTells", inPlace := ["sync/atomic.AddInt64", "sync/atomic.LoadUint32", "(*internal/sync.Mutex).Lock", "internal/race.Disable", "sync/atomic.CompareAndSwapInt32", "internal/race.Enable", "internal/race.Acquire", "(*internal/sync.Mutex).lockSlow", "internal/sync.runtime_canSpin", "internal/sync.runtime_doSpin", "internal/sync.throw", "internal/sync.runtime_nanotime", "internal/sync.runtime_SemacquireMutex", "sync/atomic.AddInt32", "(*internal/sync.Mutex).Unlock", "internal/race.ReleaseMerge", "(*internal/sync.Mutex).unlockSlow", "internal/sync.fatal", "internal/sync.runtime_Semrelease", "sync/atomic.StoreUint32", "sync/atomic.LoadInt64"], unfollowed := true, recurses := true, apart := false }
def BankTellsSaid : Prop := bankTellsRow.holds Try.pinned (OpenSpec.ofChange bankTellsSpec)

/-- ITS FALSE NEIGHBOUR: 'it returns false'. Refute it at one input. -/
def bankTellsWrong : ChangeSpec := { name := "bankTells", fn := fun _ => fun
  | [d] => { results := [.lit (.bool false)], args := [d] }
  | _ => none }
def BankTellsWrongFalsely : Prop := bankTellsRow.holds Try.pinned (OpenSpec.ofChange bankTellsWrong)

/-- 'psalterylaw04.BankOnce': WHATEVER THE INPUT: true; the input reads as it did. -/
def bankOnceSpec : ChangeSpec := { name := "bankOnce", fn := fun _ => fun
  | [d1, d2] => { results := [.lit (.bool true)], args := [d1, d2] }
  | _ => none }
def bankOnceRow : OpenClaim := { program := "ytcaehpgdcjonfaa", sum := "5c2a0d837b57282e0460afa7e244c445c4eaf7699dba059f69c7932fbc8434a6", func := "psaltery/psalterylaw04.BankOnce", spec := "bankOnce", inPlace := ["sync/atomic.AddInt64", "sync/atomic.LoadUint32", "(*internal/sync.Mutex).Lock", "internal/race.Disable", "sync/atomic.CompareAndSwapInt32", "internal/race.Enable", "internal/race.Acquire", "(*internal/sync.Mutex).lockSlow", "internal/sync.runtime_canSpin", "internal/sync.runtime_doSpin", "internal/sync.throw", "internal/sync.runtime_nanotime", "internal/sync.runtime_SemacquireMutex", "sync/atomic.AddInt32", "(*internal/sync.Mutex).Unlock", "internal/race.ReleaseMerge", "(*internal/sync.Mutex).unlockSlow", "internal/sync.fatal", "internal/sync.runtime_Semrelease", "sync/atomic.StoreUint32", "sync/atomic.LoadInt64"], unfollowed := true, recurses := true, apart := false }
def BankOnceSaid : Prop := bankOnceRow.holds Try.pinned (OpenSpec.ofChange bankOnceSpec)

/-- ITS FALSE NEIGHBOUR: 'it returns false'. Refute it at one input. -/
def bankOnceWrong : ChangeSpec := { name := "bankOnce", fn := fun _ => fun
  | [d1, d2] => { results := [.lit (.bool false)], args := [d1, d2] }
  | _ => none }
def BankOnceWrongFalsely : Prop := bankOnceRow.holds Try.pinned (OpenSpec.ofChange bankOnceWrong)

/-- 'psalterylaw04.BankNil': WHATEVER THE INPUT: true; the input reads as it did. -/
def bankNilSpec : ChangeSpec := { name := "bankNil", fn := fun _ => fun
  | [d] => { results := [.lit (.bool true)], args := [d] }
  | _ => none }
def bankNilRow : OpenClaim := { program := "ytcaehpgdcjonfaa", sum := "5c2a0d837b57282e0460afa7e244c445c4eaf7699dba059f69c7932fbc8434a6", func := "psaltery/psalterylaw04.BankNil", spec := "bankNil", inPlace := ["sync/atomic.AddInt64", "sync/atomic.LoadUint32", "(*internal/sync.Mutex).Lock", "internal/race.Disable", "sync/atomic.CompareAndSwapInt32", "internal/race.Enable", "internal/race.Acquire", "(*internal/sync.Mutex).lockSlow", "internal/sync.runtime_canSpin", "internal/sync.runtime_doSpin", "internal/sync.throw", "internal/sync.runtime_nanotime", "internal/sync.runtime_SemacquireMutex", "sync/atomic.AddInt32", "(*internal/sync.Mutex).Unlock", "internal/race.ReleaseMerge", "(*internal/sync.Mutex).unlockSlow", "internal/sync.fatal", "internal/sync.runtime_Semrelease", "sync/atomic.StoreUint32", "sync/atomic.LoadInt64"], unfollowed := true, recurses := true, apart := false }
def BankNilSaid : Prop := bankNilRow.holds Try.pinned (OpenSpec.ofChange bankNilSpec)

/-- ITS FALSE NEIGHBOUR: 'it returns false'. Refute it at one input. -/
def bankNilWrong : ChangeSpec := { name := "bankNil", fn := fun _ => fun
  | [d] => { results := [.lit (.bool false)], args := [d] }
  | _ => none }
def BankNilWrongFalsely : Prop := bankNilRow.holds Try.pinned (OpenSpec.ofChange bankNilWrong)

/-- 'psalterylaw24.OfferChooses': WHATEVER THE INPUT: true; the input reads as it did. -/
def offerChoosesSpec : ChangeSpec := { name := "offerChooses", fn := fun _ => fun
  | [d] => { results := [.lit (.bool true)], args := [d] }
  | _ => none }
def offerChoosesRow : OpenClaim := { program := "ytcaehpgdcjonfaa", sum := "5c2a0d837b57282e0460afa7e244c445c4eaf7699dba059f69c7932fbc8434a6", func := "psaltery/psalterylaw24.OfferChooses", spec := "offerChooses", unfollowed := true, recurses := true, apart := false }
def OfferChoosesSaid : Prop := offerChoosesRow.holds Try.pinned (OpenSpec.ofChange offerChoosesSpec)

/-- ITS FALSE NEIGHBOUR: 'it returns false'. Refute it at one input. -/
def offerChoosesWrong : ChangeSpec := { name := "offerChooses", fn := fun _ => fun
  | [d] => { results := [.lit (.bool false)], args := [d] }
  | _ => none }
def OfferChoosesWrongFalsely : Prop := offerChoosesRow.holds Try.pinned (OpenSpec.ofChange offerChoosesWrong)

/-- 'psalterylaw24.OfferMeets': WHATEVER THE INPUT: true; the input reads as it did. -/
def offerMeetsSpec : ChangeSpec := { name := "offerMeets", fn := fun _ => fun
  | [d1, d2, d3, d4] => { results := [.lit (.bool true)], args := [d1, d2, d3, d4] }
  | _ => none }
def offerMeetsRow : OpenClaim := { program := "ytcaehpgdcjonfaa", sum := "5c2a0d837b57282e0460afa7e244c445c4eaf7699dba059f69c7932fbc8434a6", func := "psaltery/psalterylaw24.OfferMeets", spec := "offerMeets", unfollowed := true, recurses := true, apart := false }
def OfferMeetsSaid : Prop := offerMeetsRow.holds Try.pinned (OpenSpec.ofChange offerMeetsSpec)

/-- ITS FALSE NEIGHBOUR: 'it returns false'. Refute it at one input. -/
def offerMeetsWrong : ChangeSpec := { name := "offerMeets", fn := fun _ => fun
  | [d1, d2, d3, d4] => { results := [.lit (.bool false)], args := [d1, d2, d3, d4] }
  | _ => none }
def OfferMeetsWrongFalsely : Prop := offerMeetsRow.holds Try.pinned (OpenSpec.ofChange offerMeetsWrong)

/-- 'psalterylaw24.OfferBest': WHATEVER THE INPUT: true; the input reads as it did. -/
def offerBestSpec : ChangeSpec := { name := "offerBest", fn := fun _ => fun
  | [d1, d2, d3, d4, d5] => { results := [.lit (.bool true)], args := [d1, d2, d3, d4, d5] }
  | _ => none }
def offerBestRow : OpenClaim := { program := "ytcaehpgdcjonfaa", sum := "5c2a0d837b57282e0460afa7e244c445c4eaf7699dba059f69c7932fbc8434a6", func := "psaltery/psalterylaw24.OfferBest", spec := "offerBest", unfollowed := true, recurses := true, apart := false }
def OfferBestSaid : Prop := offerBestRow.holds Try.pinned (OpenSpec.ofChange offerBestSpec)

/-- ITS FALSE NEIGHBOUR: 'it returns false'. Refute it at one input. -/
def offerBestWrong : ChangeSpec := { name := "offerBest", fn := fun _ => fun
  | [d1, d2, d3, d4, d5] => { results := [.lit (.bool false)], args := [d1, d2, d3, d4, d5] }
  | _ => none }
def OfferBestWrongFalsely : Prop := offerBestRow.holds Try.pinned (OpenSpec.ofChange offerBestWrong)

/-- 'psalterylaw25.StreamOnly': WHATEVER THE INPUT: true; the input reads as it did. -/
def streamOnlySpec : ChangeSpec := { name := "streamOnly", fn := fun _ => fun
  | [d] => { results := [.lit (.bool true)], args := [d] }
  | _ => none }
def streamOnlyRow : OpenClaim := { program := "ytcaehpgdcjonfaa", sum := "5c2a0d837b57282e0460afa7e244c445c4eaf7699dba059f69c7932fbc8434a6", func := "psaltery/psalterylaw25.StreamOnly", spec := "streamOnly", unfollowed := true, recurses := true, apart := false }
def StreamOnlySaid : Prop := streamOnlyRow.holds Try.pinned (OpenSpec.ofChange streamOnlySpec)

/-- ITS FALSE NEIGHBOUR: 'it returns false'. Refute it at one input. -/
def streamOnlyWrong : ChangeSpec := { name := "streamOnly", fn := fun _ => fun
  | [d] => { results := [.lit (.bool false)], args := [d] }
  | _ => none }
def StreamOnlyWrongFalsely : Prop := streamOnlyRow.holds Try.pinned (OpenSpec.ofChange streamOnlyWrong)

/-- 'psalterylaw25.StreamNil': WHATEVER THE INPUT: true; the input reads as it did. -/
def streamNilSpec : ChangeSpec := { name := "streamNil", fn := fun _ => fun
  | [d] => { results := [.lit (.bool true)], args := [d] }
  | _ => none }
def streamNilRow : OpenClaim := { program := "ytcaehpgdcjonfaa", sum := "5c2a0d837b57282e0460afa7e244c445c4eaf7699dba059f69c7932fbc8434a6", func := "psaltery/psalterylaw25.StreamNil", spec := "streamNil", unfollowed := true, recurses := true, apart := false }
def StreamNilSaid : Prop := streamNilRow.holds Try.pinned (OpenSpec.ofChange streamNilSpec)

/-- ITS FALSE NEIGHBOUR: 'it returns false'. Refute it at one input. -/
def streamNilWrong : ChangeSpec := { name := "streamNil", fn := fun _ => fun
  | [d] => { results := [.lit (.bool false)], args := [d] }
  | _ => none }
def StreamNilWrongFalsely : Prop := streamNilRow.holds Try.pinned (OpenSpec.ofChange streamNilWrong)

/- THE SECOND FORM. 'bulk': how many values and letters a reading holds, each counted each time it is reached (what is shared counts as often as it is met; a slice's spare places count too). A statement '..UptoSaid' is the law's where the arguments, and the package variables that the reading takes, are together of bulk at most 1048576: NARROWER than '..Said'. Prove '..Said' where nothing that the law and all that it calls make is longer than what came in: it says more and counts as full. Else prove '..UptoSaid'. A law counts once. -/
mutual
def uptoBulk {H : Type} : DataW H → Nat
  | .lit (.string bytes) => bytes.length + 1
  | .lit _ => 1
  | .nil => 1
  | .ptr d => uptoBulk d + 1
  | .slice elems spare => uptoBulkAll elems + uptoBulkAll spare + 1
  | .agg parts => uptoBulkAll parts + 1
  | .iface _ d => uptoBulk d + 1
  | .map entries => uptoBulkEntries entries + 1
  | .held _ => 1
def uptoBulkAll {H : Type} : List (DataW H) → Nat
  | [] => 0
  | d :: r => uptoBulk d + uptoBulkAll r
def uptoBulkEntries {H : Type} : List (Lit × DataW H) → Nat
  | [] => 0
  | x :: r => uptoBulkEntry x + uptoBulkEntries r
def uptoBulkEntry {H : Type} : Lit × DataW H → Nat
  | (.string bytes, d) => bytes.length + uptoBulk d + 1
  | (_, d) => uptoBulk d + 1
 end
def uptoSmall : (H : Type) → List (DataW H) → Bool := fun _ ds => decide (uptoBulkAll ds ≤ 1048576)
def OpenSpec.upto (s : _root_.Go.ChangeSpec) : _root_.Go.OpenSpec := { _root_.Go.OpenSpec.ofChange s with cond := some uptoSmall }

/-- 'psalterylaw32.WeatherPlays', WHERE WHAT IT READS IS OF BULK AT MOST 1048576: true; the input reads as it did. -/
def weatherPlaysUptoRow : OpenClaim := { program := "ytcaehpgdcjonfaa", sum := "5c2a0d837b57282e0460afa7e244c445c4eaf7699dba059f69c7932fbc8434a6", func := "psaltery/psalterylaw32.WeatherPlays", spec := "weatherPlays", apart := false, narrowed := true }
def WeatherPlaysUptoSaid : Prop := weatherPlaysUptoRow.holds Try.pinned (OpenSpec.upto weatherPlaysSpec)

/-- 'psalterylaw32.WeatherEnds', WHERE WHAT IT READS IS OF BULK AT MOST 1048576: true; the input reads as it did. -/
def weatherEndsUptoRow : OpenClaim := { program := "ytcaehpgdcjonfaa", sum := "5c2a0d837b57282e0460afa7e244c445c4eaf7699dba059f69c7932fbc8434a6", func := "psaltery/psalterylaw32.WeatherEnds", spec := "weatherEnds", apart := false, narrowed := true }
def WeatherEndsUptoSaid : Prop := weatherEndsUptoRow.holds Try.pinned (OpenSpec.upto weatherEndsSpec)

/-- 'psalterylaw32.WeatherNil', WHERE WHAT IT READS IS OF BULK AT MOST 1048576: true; the input reads as it did. -/
def weatherNilUptoRow : OpenClaim := { program := "ytcaehpgdcjonfaa", sum := "5c2a0d837b57282e0460afa7e244c445c4eaf7699dba059f69c7932fbc8434a6", func := "psaltery/psalterylaw32.WeatherNil", spec := "weatherNil", apart := false, narrowed := true }
def WeatherNilUptoSaid : Prop := weatherNilUptoRow.holds Try.pinned (OpenSpec.upto weatherNilSpec)

/-- 'psalterylaw11.FormTells', WHERE WHAT IT READS IS OF BULK AT MOST 1048576: true; the input reads as it did. -/
def formTellsUptoRow : OpenClaim := { program := "ytcaehpgdcjonfaa", sum := "5c2a0d837b57282e0460afa7e244c445c4eaf7699dba059f69c7932fbc8434a6", func := "psaltery/psalterylaw11.FormTells", spec := "formTells", unfollowed := true, recurses := true, apart := false, narrowed := true }
def FormTellsUptoSaid : Prop := formTellsUptoRow.holds Try.pinned (OpenSpec.upto formTellsSpec)

/-- 'psalterylaw11.FormEnds', WHERE WHAT IT READS IS OF BULK AT MOST 1048576: true; the input reads as it did. -/
def formEndsUptoRow : OpenClaim := { program := "ytcaehpgdcjonfaa", sum := "5c2a0d837b57282e0460afa7e244c445c4eaf7699dba059f69c7932fbc8434a6", func := "psaltery/psalterylaw11.FormEnds", spec := "formEnds", unfollowed := true, recurses := true, apart := false, narrowed := true }
def FormEndsUptoSaid : Prop := formEndsUptoRow.holds Try.pinned (OpenSpec.upto formEndsSpec)

/-- 'psalterylaw11.FormatOnly', WHERE WHAT IT READS IS OF BULK AT MOST 1048576: true; the input reads as it did. -/
def formatOnlyUptoRow : OpenClaim := { program := "ytcaehpgdcjonfaa", sum := "5c2a0d837b57282e0460afa7e244c445c4eaf7699dba059f69c7932fbc8434a6", func := "psaltery/psalterylaw11.FormatOnly", spec := "formatOnly", unfollowed := true, recurses := true, apart := false, narrowed := true }
def FormatOnlyUptoSaid : Prop := formatOnlyUptoRow.holds Try.pinned (OpenSpec.upto formatOnlySpec)

/-- 'psalterylaw23.CapsBack', WHERE WHAT IT READS IS OF BULK AT MOST 1048576: true; the input reads as it did. -/
def capsBackUptoRow : OpenClaim := { program := "ytcaehpgdcjonfaa", sum := "5c2a0d837b57282e0460afa7e244c445c4eaf7699dba059f69c7932fbc8434a6", func := "psaltery/psalterylaw23.CapsBack", spec := "capsBack", apart := false, narrowed := true }
def CapsBackUptoSaid : Prop := capsBackUptoRow.holds Try.pinned (OpenSpec.upto capsBackSpec)

/-- 'psalterylaw23.CapsMore', WHERE WHAT IT READS IS OF BULK AT MOST 1048576: true; the input reads as it did. -/
def capsMoreUptoRow : OpenClaim := { program := "ytcaehpgdcjonfaa", sum := "5c2a0d837b57282e0460afa7e244c445c4eaf7699dba059f69c7932fbc8434a6", func := "psaltery/psalterylaw23.CapsMore", spec := "capsMore", apart := false, narrowed := true }
def CapsMoreUptoSaid : Prop := capsMoreUptoRow.holds Try.pinned (OpenSpec.upto capsMoreSpec)

/-- 'psalterylaw23.CapsTells', WHERE WHAT IT READS IS OF BULK AT MOST 1048576: true; the input reads as it did. -/
def capsTellsUptoRow : OpenClaim := { program := "ytcaehpgdcjonfaa", sum := "5c2a0d837b57282e0460afa7e244c445c4eaf7699dba059f69c7932fbc8434a6", func := "psaltery/psalterylaw23.CapsTells", spec := "capsTells", apart := false, narrowed := true }
def CapsTellsUptoSaid : Prop := capsTellsUptoRow.holds Try.pinned (OpenSpec.upto capsTellsSpec)

/-- 'psalterylaw12.AllocShares', WHERE WHAT IT READS IS OF BULK AT MOST 1048576: true; the input reads as it did. -/
def allocSharesUptoRow : OpenClaim := { program := "ytcaehpgdcjonfaa", sum := "5c2a0d837b57282e0460afa7e244c445c4eaf7699dba059f69c7932fbc8434a6", func := "psaltery/psalterylaw12.AllocShares", spec := "allocShares", unfollowed := true, recurses := true, apart := false, narrowed := true }
def AllocSharesUptoSaid : Prop := allocSharesUptoRow.holds Try.pinned (OpenSpec.upto allocSharesSpec)

/-- 'psalterylaw04.BankTells', WHERE WHAT IT READS IS OF BULK AT MOST 1048576: true; the input reads as it did. -/
def bankTellsUptoRow : OpenClaim := { program := "ytcaehpgdcjonfaa", sum := "5c2a0d837b57282e0460afa7e244c445c4eaf7699dba059f69c7932fbc8434a6", func := "psaltery/psalterylaw04.BankTells", spec := "bankTells", inPlace := ["sync/atomic.AddInt64", "sync/atomic.LoadUint32", "(*internal/sync.Mutex).Lock", "internal/race.Disable", "sync/atomic.CompareAndSwapInt32", "internal/race.Enable", "internal/race.Acquire", "(*internal/sync.Mutex).lockSlow", "internal/sync.runtime_canSpin", "internal/sync.runtime_doSpin", "internal/sync.throw", "internal/sync.runtime_nanotime", "internal/sync.runtime_SemacquireMutex", "sync/atomic.AddInt32", "(*internal/sync.Mutex).Unlock", "internal/race.ReleaseMerge", "(*internal/sync.Mutex).unlockSlow", "internal/sync.fatal", "internal/sync.runtime_Semrelease", "sync/atomic.StoreUint32", "sync/atomic.LoadInt64"], unfollowed := true, recurses := true, apart := false, narrowed := true }
def BankTellsUptoSaid : Prop := bankTellsUptoRow.holds Try.pinned (OpenSpec.upto bankTellsSpec)

/-- 'psalterylaw04.BankOnce', WHERE WHAT IT READS IS OF BULK AT MOST 1048576: true; the input reads as it did. -/
def bankOnceUptoRow : OpenClaim := { program := "ytcaehpgdcjonfaa", sum := "5c2a0d837b57282e0460afa7e244c445c4eaf7699dba059f69c7932fbc8434a6", func := "psaltery/psalterylaw04.BankOnce", spec := "bankOnce", inPlace := ["sync/atomic.AddInt64", "sync/atomic.LoadUint32", "(*internal/sync.Mutex).Lock", "internal/race.Disable", "sync/atomic.CompareAndSwapInt32", "internal/race.Enable", "internal/race.Acquire", "(*internal/sync.Mutex).lockSlow", "internal/sync.runtime_canSpin", "internal/sync.runtime_doSpin", "internal/sync.throw", "internal/sync.runtime_nanotime", "internal/sync.runtime_SemacquireMutex", "sync/atomic.AddInt32", "(*internal/sync.Mutex).Unlock", "internal/race.ReleaseMerge", "(*internal/sync.Mutex).unlockSlow", "internal/sync.fatal", "internal/sync.runtime_Semrelease", "sync/atomic.StoreUint32", "sync/atomic.LoadInt64"], unfollowed := true, recurses := true, apart := false, narrowed := true }
def BankOnceUptoSaid : Prop := bankOnceUptoRow.holds Try.pinned (OpenSpec.upto bankOnceSpec)

/-- 'psalterylaw04.BankNil', WHERE WHAT IT READS IS OF BULK AT MOST 1048576: true; the input reads as it did. -/
def bankNilUptoRow : OpenClaim := { program := "ytcaehpgdcjonfaa", sum := "5c2a0d837b57282e0460afa7e244c445c4eaf7699dba059f69c7932fbc8434a6", func := "psaltery/psalterylaw04.BankNil", spec := "bankNil", inPlace := ["sync/atomic.AddInt64", "sync/atomic.LoadUint32", "(*internal/sync.Mutex).Lock", "internal/race.Disable", "sync/atomic.CompareAndSwapInt32", "internal/race.Enable", "internal/race.Acquire", "(*internal/sync.Mutex).lockSlow", "internal/sync.runtime_canSpin", "internal/sync.runtime_doSpin", "internal/sync.throw", "internal/sync.runtime_nanotime", "internal/sync.runtime_SemacquireMutex", "sync/atomic.AddInt32", "(*internal/sync.Mutex).Unlock", "internal/race.ReleaseMerge", "(*internal/sync.Mutex).unlockSlow", "internal/sync.fatal", "internal/sync.runtime_Semrelease", "sync/atomic.StoreUint32", "sync/atomic.LoadInt64"], unfollowed := true, recurses := true, apart := false, narrowed := true }
def BankNilUptoSaid : Prop := bankNilUptoRow.holds Try.pinned (OpenSpec.upto bankNilSpec)

/-- 'psalterylaw24.OfferChooses', WHERE WHAT IT READS IS OF BULK AT MOST 1048576: true; the input reads as it did. -/
def offerChoosesUptoRow : OpenClaim := { program := "ytcaehpgdcjonfaa", sum := "5c2a0d837b57282e0460afa7e244c445c4eaf7699dba059f69c7932fbc8434a6", func := "psaltery/psalterylaw24.OfferChooses", spec := "offerChooses", unfollowed := true, recurses := true, apart := false, narrowed := true }
def OfferChoosesUptoSaid : Prop := offerChoosesUptoRow.holds Try.pinned (OpenSpec.upto offerChoosesSpec)

/-- 'psalterylaw24.OfferMeets', WHERE WHAT IT READS IS OF BULK AT MOST 1048576: true; the input reads as it did. -/
def offerMeetsUptoRow : OpenClaim := { program := "ytcaehpgdcjonfaa", sum := "5c2a0d837b57282e0460afa7e244c445c4eaf7699dba059f69c7932fbc8434a6", func := "psaltery/psalterylaw24.OfferMeets", spec := "offerMeets", unfollowed := true, recurses := true, apart := false, narrowed := true }
def OfferMeetsUptoSaid : Prop := offerMeetsUptoRow.holds Try.pinned (OpenSpec.upto offerMeetsSpec)

/-- 'psalterylaw24.OfferBest', WHERE WHAT IT READS IS OF BULK AT MOST 1048576: true; the input reads as it did. -/
def offerBestUptoRow : OpenClaim := { program := "ytcaehpgdcjonfaa", sum := "5c2a0d837b57282e0460afa7e244c445c4eaf7699dba059f69c7932fbc8434a6", func := "psaltery/psalterylaw24.OfferBest", spec := "offerBest", unfollowed := true, recurses := true, apart := false, narrowed := true }
def OfferBestUptoSaid : Prop := offerBestUptoRow.holds Try.pinned (OpenSpec.upto offerBestSpec)

/-- 'psalterylaw25.StreamOnly', WHERE WHAT IT READS IS OF BULK AT MOST 1048576: true; the input reads as it did. -/
def streamOnlyUptoRow : OpenClaim := { program := "ytcaehpgdcjonfaa", sum := "5c2a0d837b57282e0460afa7e244c445c4eaf7699dba059f69c7932fbc8434a6", func := "psaltery/psalterylaw25.StreamOnly", spec := "streamOnly", unfollowed := true, recurses := true, apart := false, narrowed := true }
def StreamOnlyUptoSaid : Prop := streamOnlyUptoRow.holds Try.pinned (OpenSpec.upto streamOnlySpec)

/-- 'psalterylaw25.StreamNil', WHERE WHAT IT READS IS OF BULK AT MOST 1048576: true; the input reads as it did. -/
def streamNilUptoRow : OpenClaim := { program := "ytcaehpgdcjonfaa", sum := "5c2a0d837b57282e0460afa7e244c445c4eaf7699dba059f69c7932fbc8434a6", func := "psaltery/psalterylaw25.StreamNil", spec := "streamNil", unfollowed := true, recurses := true, apart := false, narrowed := true }
def StreamNilUptoSaid : Prop := streamNilUptoRow.holds Try.pinned (OpenSpec.upto streamNilSpec)

end Rows
end Go.Proofs.Ytcaehpgdcjonfaa
