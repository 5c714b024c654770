/-
  No cell of these rows narrows 'for every input' (looked for: loops, veiled, ifaces, maps, wideKeys, modest, calm, conditions, laid).
  DERIVED. THE GIVEN ROWS OF THIS SEAT. 5 by the template 'for every input the law returns true; each argument reads behind the call as it read before'; 0 by the template 'total and deterministic' (their statements: YtphhdmopfmelbaaTotals.lean).
  GIVEN WITH THE SEED: the statements are not yours to turn. If you find one false, say at which input.
  Laid BY PROGRAM, IN A SANDBOX (cutbox-rows.mjs): the forced cells as the released guide's own fill.sh prints them over the translation d310f486ab0cb571… (all of the seat's roots in one cut). By AI agents, Wed Nov 11 2026. No macro, syntax, notation, axiom, sorry.
-/
import Derived.Test.YtphhdmopfmelbaaChecked
import GoSem.Claim
import GoSem.ClaimJoined
import GoSem.ClaimMapViews
import Derived.JoinedTies
import Derived.KernelRfl
namespace Go.Proofs.Ytphhdmopfmelbaa
/- THE CELL 'sum', in the pinned program and in every row, IS THE sha256 OF THE DUMP (.gsa) THAT YtphhdmopfmelbaaProg.lean LOADS. Nothing in Lean hashes anything: it is a label: what it is worth is what the hold of that sum in a sandbox is worth. -/
noncomputable def Try.pinned : Pinned := { name := "ytphhdmopfmelbaa", sum := "d310f486ab0cb571483e02e5c162632ad148b6194fef384b32812d2e98a6750d", checked := Try.checked }
namespace Rows
def none {H : Type} : Left H := { results := [], args := [] }

/-- 'larchlaw13.HelpKinds': WHATEVER THE INPUT: true; the input reads as it did. -/
def helpKindsSpec : ChangeSpec := { name := "helpKinds", fn := fun _ => fun
  | [d1, d2] => { results := [.lit (.bool true)], args := [d1, d2] }
  | _ => none }
def helpKindsRow : OpenClaim := { program := "ytphhdmopfmelbaa", sum := "d310f486ab0cb571483e02e5c162632ad148b6194fef384b32812d2e98a6750d", func := "larch/larchlaw13.HelpKinds", spec := "helpKinds", inPlace := ["sync/atomic.StorePointer", "sync/atomic.StoreInt64", "sync/atomic.LoadPointer", "sync/atomic.CompareAndSwapPointer", "sync/atomic.StoreUint32", "sync/atomic.LoadUint32"], unfollowed := true, recurses := true, apart := false }
def HelpKindsSaid : Prop := helpKindsRow.holds Try.pinned (OpenSpec.ofChange helpKindsSpec)

/-- ITS FALSE NEIGHBOUR: 'it returns false'. Refute it at one input. -/
def helpKindsWrong : ChangeSpec := { name := "helpKinds", fn := fun _ => fun
  | [d1, d2] => { results := [.lit (.bool false)], args := [d1, d2] }
  | _ => none }
def HelpKindsWrongFalsely : Prop := helpKindsRow.holds Try.pinned (OpenSpec.ofChange helpKindsWrong)

/-- 'larchlaw12.RecordPlays': WHATEVER THE INPUT: true; the input reads as it did. -/
def recordPlaysSpec : ChangeSpec := { name := "recordPlays", fn := fun _ => fun
  | [d] => { results := [.lit (.bool true)], args := [d] }
  | _ => none }
def recordPlaysRow : OpenClaim := { program := "ytphhdmopfmelbaa", sum := "d310f486ab0cb571483e02e5c162632ad148b6194fef384b32812d2e98a6750d", func := "larch/larchlaw12.RecordPlays", spec := "recordPlays", inPlace := ["sync/atomic.StorePointer", "sync/atomic.StoreInt64", "sync/atomic.LoadPointer", "sync/atomic.StoreUint32", "sync/atomic.LoadInt64", "sync/atomic.LoadUint32", "sync/atomic.CompareAndSwapPointer"], unfollowed := true, recurses := true, apart := false }
def RecordPlaysSaid : Prop := recordPlaysRow.holds Try.pinned (OpenSpec.ofChange recordPlaysSpec)

/-- ITS FALSE NEIGHBOUR: 'it returns false'. Refute it at one input. -/
def recordPlaysWrong : ChangeSpec := { name := "recordPlays", fn := fun _ => fun
  | [d] => { results := [.lit (.bool false)], args := [d] }
  | _ => none }
def RecordPlaysWrongFalsely : Prop := recordPlaysRow.holds Try.pinned (OpenSpec.ofChange recordPlaysWrong)

/-- 'larchlaw12.RecordCalls': WHATEVER THE INPUT: true; the input reads as it did. -/
def recordCallsSpec : ChangeSpec := { name := "recordCalls", fn := fun _ => fun
  | [d] => { results := [.lit (.bool true)], args := [d] }
  | _ => none }
def recordCallsRow : OpenClaim := { program := "ytphhdmopfmelbaa", sum := "d310f486ab0cb571483e02e5c162632ad148b6194fef384b32812d2e98a6750d", func := "larch/larchlaw12.RecordCalls", spec := "recordCalls", inPlace := ["sync/atomic.StorePointer", "sync/atomic.StoreInt64", "sync/atomic.LoadPointer", "sync/atomic.StoreUint32", "sync/atomic.LoadInt64", "sync/atomic.LoadUint32", "sync/atomic.CompareAndSwapPointer"], unfollowed := true, recurses := true, apart := false }
def RecordCallsSaid : Prop := recordCallsRow.holds Try.pinned (OpenSpec.ofChange recordCallsSpec)

/-- ITS FALSE NEIGHBOUR: 'it returns false'. Refute it at one input. -/
def recordCallsWrong : ChangeSpec := { name := "recordCalls", fn := fun _ => fun
  | [d] => { results := [.lit (.bool false)], args := [d] }
  | _ => none }
def RecordCallsWrongFalsely : Prop := recordCallsRow.holds Try.pinned (OpenSpec.ofChange recordCallsWrong)

/-- 'larchlaw12.RecordBeginnings': WHATEVER THE INPUT: true; the input reads as it did. -/
def recordBeginningsSpec : ChangeSpec := { name := "recordBeginnings", fn := fun _ => fun
  | [d] => { results := [.lit (.bool true)], args := [d] }
  | _ => none }
def recordBeginningsRow : OpenClaim := { program := "ytphhdmopfmelbaa", sum := "d310f486ab0cb571483e02e5c162632ad148b6194fef384b32812d2e98a6750d", func := "larch/larchlaw12.RecordBeginnings", spec := "recordBeginnings", inPlace := ["sync/atomic.StorePointer", "sync/atomic.StoreInt64", "sync/atomic.LoadPointer", "sync/atomic.StoreUint32", "sync/atomic.LoadInt64", "sync/atomic.LoadUint32", "sync/atomic.CompareAndSwapPointer"], unfollowed := true, recurses := true, apart := false }
def RecordBeginningsSaid : Prop := recordBeginningsRow.holds Try.pinned (OpenSpec.ofChange recordBeginningsSpec)

/-- ITS FALSE NEIGHBOUR: 'it returns false'. Refute it at one input. -/
def recordBeginningsWrong : ChangeSpec := { name := "recordBeginnings", fn := fun _ => fun
  | [d] => { results := [.lit (.bool false)], args := [d] }
  | _ => none }
def RecordBeginningsWrongFalsely : Prop := recordBeginningsRow.holds Try.pinned (OpenSpec.ofChange recordBeginningsWrong)

/-- 'larchlaw12.RecordMemory': WHATEVER THE INPUT: true; the input reads as it did. -/
def recordMemorySpec : ChangeSpec := { name := "recordMemory", fn := fun _ => fun
  | [d] => { results := [.lit (.bool true)], args := [d] }
  | _ => none }
def recordMemoryRow : OpenClaim := { program := "ytphhdmopfmelbaa", sum := "d310f486ab0cb571483e02e5c162632ad148b6194fef384b32812d2e98a6750d", func := "larch/larchlaw12.RecordMemory", spec := "recordMemory", inPlace := ["sync/atomic.StorePointer", "sync/atomic.StoreInt64", "sync/atomic.LoadPointer", "sync/atomic.StoreUint32", "sync/atomic.LoadInt64", "sync/atomic.LoadUint32", "sync/atomic.CompareAndSwapPointer"], unfollowed := true, recurses := true, apart := false }
def RecordMemorySaid : Prop := recordMemoryRow.holds Try.pinned (OpenSpec.ofChange recordMemorySpec)

/-- ITS FALSE NEIGHBOUR: 'it returns false'. Refute it at one input. -/
def recordMemoryWrong : ChangeSpec := { name := "recordMemory", fn := fun _ => fun
  | [d] => { results := [.lit (.bool false)], args := [d] }
  | _ => none }
def RecordMemoryWrongFalsely : Prop := recordMemoryRow.holds Try.pinned (OpenSpec.ofChange recordMemoryWrong)

/- THE SECOND FORM. 'bulk': how many values and letters a reading holds, each counted each time it is reached (what is shared counts as often as it is met; a slice's spare places count too). A statement '..UptoSaid' is the law's where the arguments, and the package variables that the reading takes, are together of bulk at most 1048576: NARROWER than '..Said'. Prove '..Said' where nothing that the law and all that it calls make is longer than what came in: it says more and counts as full. Else prove '..UptoSaid'. A law counts once. -/
mutual
def uptoBulk {H : Type} : DataW H → Nat
  | .lit (.string bytes) => bytes.length + 1
  | .lit _ => 1
  | .nil => 1
  | .ptr d => uptoBulk d + 1
  | .slice elems spare => uptoBulkAll elems + uptoBulkAll spare + 1
  | .agg parts => uptoBulkAll parts + 1
  | .iface _ d => uptoBulk d + 1
  | .map entries => uptoBulkEntries entries + 1
  | .held _ => 1
def uptoBulkAll {H : Type} : List (DataW H) → Nat
  | [] => 0
  | d :: r => uptoBulk d + uptoBulkAll r
def uptoBulkEntries {H : Type} : List (Lit × DataW H) → Nat
  | [] => 0
  | x :: r => uptoBulkEntry x + uptoBulkEntries r
def uptoBulkEntry {H : Type} : Lit × DataW H → Nat
  | (.string bytes, d) => bytes.length + uptoBulk d + 1
  | (_, d) => uptoBulk d + 1
 end
def uptoSmall : (H : Type) → List (DataW H) → Bool := fun _ ds => decide (uptoBulkAll ds ≤ 1048576)
def OpenSpec.upto (s : _root_.Go.ChangeSpec) : _root_.Go.OpenSpec := { _root_.Go.OpenSpec.ofChange s with cond := some uptoSmall }

/-- 'larchlaw13.HelpKinds', WHERE WHAT IT READS IS OF BULK AT MOST 1048576: true; the input reads as it did. -/
def helpKindsUptoRow : OpenClaim := { program := "ytphhdmopfmelbaa", sum := "d310f486ab0cb571483e02e5c162632ad148b6194fef384b32812d2e98a6750d", func := "larch/larchlaw13.HelpKinds", spec := "helpKinds", inPlace := ["sync/atomic.StorePointer", "sync/atomic.StoreInt64", "sync/atomic.LoadPointer", "sync/atomic.CompareAndSwapPointer", "sync/atomic.StoreUint32", "sync/atomic.LoadUint32"], unfollowed := true, recurses := true, apart := false, narrowed := true }
def HelpKindsUptoSaid : Prop := helpKindsUptoRow.holds Try.pinned (OpenSpec.upto helpKindsSpec)

/-- 'larchlaw12.RecordPlays', WHERE WHAT IT READS IS OF BULK AT MOST 1048576: true; the input reads as it did. -/
def recordPlaysUptoRow : OpenClaim := { program := "ytphhdmopfmelbaa", sum := "d310f486ab0cb571483e02e5c162632ad148b6194fef384b32812d2e98a6750d", func := "larch/larchlaw12.RecordPlays", spec := "recordPlays", inPlace := ["sync/atomic.StorePointer", "sync/atomic.StoreInt64", "sync/atomic.LoadPointer", "sync/atomic.StoreUint32", "sync/atomic.LoadInt64", "sync/atomic.LoadUint32", "sync/atomic.CompareAndSwapPointer"], unfollowed := true, recurses := true, apart := false, narrowed := true }
def RecordPlaysUptoSaid : Prop := recordPlaysUptoRow.holds Try.pinned (OpenSpec.upto recordPlaysSpec)

/-- 'larchlaw12.RecordCalls', WHERE WHAT IT READS IS OF BULK AT MOST 1048576: true; the input reads as it did. -/
def recordCallsUptoRow : OpenClaim := { program := "ytphhdmopfmelbaa", sum := "d310f486ab0cb571483e02e5c162632ad148b6194fef384b32812d2e98a6750d", func := "larch/larchlaw12.RecordCalls", spec := "recordCalls", inPlace := ["sync/atomic.StorePointer", "sync/atomic.StoreInt64", "sync/atomic.LoadPointer", "sync/atomic.StoreUint32", "sync/atomic.LoadInt64", "sync/atomic.LoadUint32", "sync/atomic.CompareAndSwapPointer"], unfollowed := true, recurses := true, apart := false, narrowed := true }
def RecordCallsUptoSaid : Prop := recordCallsUptoRow.holds Try.pinned (OpenSpec.upto recordCallsSpec)

/-- 'larchlaw12.RecordBeginnings', WHERE WHAT IT READS IS OF BULK AT MOST 1048576: true; the input reads as it did. -/
def recordBeginningsUptoRow : OpenClaim := { program := "ytphhdmopfmelbaa", sum := "d310f486ab0cb571483e02e5c162632ad148b6194fef384b32812d2e98a6750d", func := "larch/larchlaw12.RecordBeginnings", spec := "recordBeginnings", inPlace := ["sync/atomic.StorePointer", "sync/atomic.StoreInt64", "sync/atomic.LoadPointer", "sync/atomic.StoreUint32", "sync/atomic.LoadInt64", "sync/atomic.LoadUint32", "sync/atomic.CompareAndSwapPointer"], unfollowed := true, recurses := true, apart := false, narrowed := true }
def RecordBeginningsUptoSaid : Prop := recordBeginningsUptoRow.holds Try.pinned (OpenSpec.upto recordBeginningsSpec)

/-- 'larchlaw12.RecordMemory', WHERE WHAT IT READS IS OF BULK AT MOST 1048576: true; the input reads as it did. -/
def recordMemoryUptoRow : OpenClaim := { program := "ytphhdmopfmelbaa", sum := "d310f486ab0cb571483e02e5c162632ad148b6194fef384b32812d2e98a6750d", func := "larch/larchlaw12.RecordMemory", spec := "recordMemory", inPlace := ["sync/atomic.StorePointer", "sync/atomic.StoreInt64", "sync/atomic.LoadPointer", "sync/atomic.StoreUint32", "sync/atomic.LoadInt64", "sync/atomic.LoadUint32", "sync/atomic.CompareAndSwapPointer"], unfollowed := true, recurses := true, apart := false, narrowed := true }
def RecordMemoryUptoSaid : Prop := recordMemoryUptoRow.holds Try.pinned (OpenSpec.upto recordMemorySpec)

end Rows
end Go.Proofs.Ytphhdmopfmelbaa
