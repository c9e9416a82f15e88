/-
  No cell of these rows narrows 'for every input' (looked for: loops, veiled, ifaces, maps, wideKeys, modest, calm, conditions, laid).
  DERIVED. THE GIVEN ROWS OF THIS SEAT. 5 by the template 'for every input the law returns true; each argument reads behind the call as it read before'; 0 by the template 'total and deterministic' (their statements: YtpfkgigfkonocaaTotals.lean).
  GIVEN WITH THE SEED: the statements are not yours to turn. If you find one false, say at which input.
  Laid BY PROGRAM, IN A SANDBOX (cutbox-rows.mjs): the forced cells as the released guide's own fill.sh prints them over the translation b76ff08258f6a9a6… (all of the seat's roots in one cut). By AI agents, Wed Nov 11 2026. No macro, syntax, notation, axiom, sorry.
-/
import Derived.Test.YtpfkgigfkonocaaChecked
import GoSem.Claim
import GoSem.ClaimJoined
import GoSem.ClaimMapViews
import Derived.JoinedTies
import Derived.KernelRfl
namespace Go.Proofs.Ytpfkgigfkonocaa
/- THE CELL 'sum', in the pinned program and in every row, IS THE sha256 OF THE DUMP (.gsa) THAT YtpfkgigfkonocaaProg.lean LOADS. Nothing in Lean hashes anything: it is a label: what it is worth is what the hold of that sum in a sandbox is worth. -/
noncomputable def Try.pinned : Pinned := { name := "ytpfkgigfkonocaa", sum := "b76ff08258f6a9a683cc508e332b7bb2d9e682da58275e1a011df36b2407e5a7", checked := Try.checked }
namespace Rows
def none {H : Type} : Left H := { results := [], args := [] }

/-- 'concourselaw20.DeltaOnce': WHATEVER THE INPUT: true; the input reads as it did. -/
def deltaOnceSpec : ChangeSpec := { name := "deltaOnce", fn := fun _ => fun
  | [d1, d2] => { results := [.lit (.bool true)], args := [d1, d2] }
  | _ => none }
def deltaOnceRow : OpenClaim := { program := "ytpfkgigfkonocaa", sum := "b76ff08258f6a9a683cc508e332b7bb2d9e682da58275e1a011df36b2407e5a7", func := "concourse/concourselaw20.DeltaOnce", spec := "deltaOnce", inPlace := ["sync/atomic.StoreInt64", "sync/atomic.LoadInt64", "sync/atomic.CompareAndSwapInt64"], apart := false }
def DeltaOnceSaid : Prop := deltaOnceRow.holds Try.pinned (OpenSpec.ofChange deltaOnceSpec)

/-- ITS FALSE NEIGHBOUR: 'it returns false'. Refute it at one input. -/
def deltaOnceWrong : ChangeSpec := { name := "deltaOnce", fn := fun _ => fun
  | [d1, d2] => { results := [.lit (.bool false)], args := [d1, d2] }
  | _ => none }
def DeltaOnceWrongFalsely : Prop := deltaOnceRow.holds Try.pinned (OpenSpec.ofChange deltaOnceWrong)

/-- 'concourselaw20.DeltaEnds': WHATEVER THE INPUT: true; the input reads as it did. -/
def deltaEndsSpec : ChangeSpec := { name := "deltaEnds", fn := fun _ => fun
  | [d1, d2] => { results := [.lit (.bool true)], args := [d1, d2] }
  | _ => none }
def deltaEndsRow : OpenClaim := { program := "ytpfkgigfkonocaa", sum := "b76ff08258f6a9a683cc508e332b7bb2d9e682da58275e1a011df36b2407e5a7", func := "concourse/concourselaw20.DeltaEnds", spec := "deltaEnds", inPlace := ["sync/atomic.StoreInt64", "sync/atomic.LoadInt64", "sync/atomic.CompareAndSwapInt64"], apart := false }
def DeltaEndsSaid : Prop := deltaEndsRow.holds Try.pinned (OpenSpec.ofChange deltaEndsSpec)

/-- ITS FALSE NEIGHBOUR: 'it returns false'. Refute it at one input. -/
def deltaEndsWrong : ChangeSpec := { name := "deltaEnds", fn := fun _ => fun
  | [d1, d2] => { results := [.lit (.bool false)], args := [d1, d2] }
  | _ => none }
def DeltaEndsWrongFalsely : Prop := deltaEndsRow.holds Try.pinned (OpenSpec.ofChange deltaEndsWrong)

/-- 'concourselaw20.DeltaNews': WHATEVER THE INPUT: true; the input reads as it did. -/
def deltaNewsSpec : ChangeSpec := { name := "deltaNews", fn := fun _ => fun
  | [d1, d2] => { results := [.lit (.bool true)], args := [d1, d2] }
  | _ => none }
def deltaNewsRow : OpenClaim := { program := "ytpfkgigfkonocaa", sum := "b76ff08258f6a9a683cc508e332b7bb2d9e682da58275e1a011df36b2407e5a7", func := "concourse/concourselaw20.DeltaNews", spec := "deltaNews", inPlace := ["sync/atomic.StoreInt64", "sync/atomic.LoadInt64", "sync/atomic.CompareAndSwapInt64"], apart := false }
def DeltaNewsSaid : Prop := deltaNewsRow.holds Try.pinned (OpenSpec.ofChange deltaNewsSpec)

/-- ITS FALSE NEIGHBOUR: 'it returns false'. Refute it at one input. -/
def deltaNewsWrong : ChangeSpec := { name := "deltaNews", fn := fun _ => fun
  | [d1, d2] => { results := [.lit (.bool false)], args := [d1, d2] }
  | _ => none }
def DeltaNewsWrongFalsely : Prop := deltaNewsRow.holds Try.pinned (OpenSpec.ofChange deltaNewsWrong)

/-- 'concourselaw20.DeltaSince': WHATEVER THE INPUT: true; the input reads as it did. -/
def deltaSinceSpec : ChangeSpec := { name := "deltaSince", fn := fun _ => fun
  | [d1, d2, d3] => { results := [.lit (.bool true)], args := [d1, d2, d3] }
  | _ => none }
def deltaSinceRow : OpenClaim := { program := "ytpfkgigfkonocaa", sum := "b76ff08258f6a9a683cc508e332b7bb2d9e682da58275e1a011df36b2407e5a7", func := "concourse/concourselaw20.DeltaSince", spec := "deltaSince", inPlace := ["sync/atomic.StoreInt64", "sync/atomic.LoadInt64", "sync/atomic.CompareAndSwapInt64"], apart := false }
def DeltaSinceSaid : Prop := deltaSinceRow.holds Try.pinned (OpenSpec.ofChange deltaSinceSpec)

/-- ITS FALSE NEIGHBOUR: 'it returns false'. Refute it at one input. -/
def deltaSinceWrong : ChangeSpec := { name := "deltaSince", fn := fun _ => fun
  | [d1, d2, d3] => { results := [.lit (.bool false)], args := [d1, d2, d3] }
  | _ => none }
def DeltaSinceWrongFalsely : Prop := deltaSinceRow.holds Try.pinned (OpenSpec.ofChange deltaSinceWrong)

/-- 'concourselaw20.DeltaEach': WHATEVER THE INPUT: true; the input reads as it did. -/
def deltaEachSpec : ChangeSpec := { name := "deltaEach", fn := fun _ => fun
  | [d1, d2, d3] => { results := [.lit (.bool true)], args := [d1, d2, d3] }
  | _ => none }
def deltaEachRow : OpenClaim := { program := "ytpfkgigfkonocaa", sum := "b76ff08258f6a9a683cc508e332b7bb2d9e682da58275e1a011df36b2407e5a7", func := "concourse/concourselaw20.DeltaEach", spec := "deltaEach", inPlace := ["sync/atomic.StoreInt64", "sync/atomic.LoadInt64", "sync/atomic.CompareAndSwapInt64"], unfollowed := true, recurses := true, apart := false }
def DeltaEachSaid : Prop := deltaEachRow.holds Try.pinned (OpenSpec.ofChange deltaEachSpec)

/-- ITS FALSE NEIGHBOUR: 'it returns false'. Refute it at one input. -/
def deltaEachWrong : ChangeSpec := { name := "deltaEach", fn := fun _ => fun
  | [d1, d2, d3] => { results := [.lit (.bool false)], args := [d1, d2, d3] }
  | _ => none }
def DeltaEachWrongFalsely : Prop := deltaEachRow.holds Try.pinned (OpenSpec.ofChange deltaEachWrong)

/- THE SECOND FORM. 'bulk': how many values and letters a reading holds, each counted each time it is reached (what is shared counts as often as it is met; a slice's spare places count too). A statement '..UptoSaid' is the law's where the arguments, and the package variables that the reading takes, are together of bulk at most 1048576: NARROWER than '..Said'. Prove '..Said' where nothing that the law and all that it calls make is longer than what came in: it says more and counts as full. Else prove '..UptoSaid'. A law counts once. -/
mutual
def uptoBulk {H : Type} : DataW H → Nat
  | .lit (.string bytes) => bytes.length + 1
  | .lit _ => 1
  | .nil => 1
  | .ptr d => uptoBulk d + 1
  | .slice elems spare => uptoBulkAll elems + uptoBulkAll spare + 1
  | .agg parts => uptoBulkAll parts + 1
  | .iface _ d => uptoBulk d + 1
  | .map entries => uptoBulkEntries entries + 1
  | .held _ => 1
def uptoBulkAll {H : Type} : List (DataW H) → Nat
  | [] => 0
  | d :: r => uptoBulk d + uptoBulkAll r
def uptoBulkEntries {H : Type} : List (Lit × DataW H) → Nat
  | [] => 0
  | x :: r => uptoBulkEntry x + uptoBulkEntries r
def uptoBulkEntry {H : Type} : Lit × DataW H → Nat
  | (.string bytes, d) => bytes.length + uptoBulk d + 1
  | (_, d) => uptoBulk d + 1
 end
def uptoSmall : (H : Type) → List (DataW H) → Bool := fun _ ds => decide (uptoBulkAll ds ≤ 1048576)
def OpenSpec.upto (s : _root_.Go.ChangeSpec) : _root_.Go.OpenSpec := { _root_.Go.OpenSpec.ofChange s with cond := some uptoSmall }

/-- 'concourselaw20.DeltaOnce', WHERE WHAT IT READS IS OF BULK AT MOST 1048576: true; the input reads as it did. -/
def deltaOnceUptoRow : OpenClaim := { program := "ytpfkgigfkonocaa", sum := "b76ff08258f6a9a683cc508e332b7bb2d9e682da58275e1a011df36b2407e5a7", func := "concourse/concourselaw20.DeltaOnce", spec := "deltaOnce", inPlace := ["sync/atomic.StoreInt64", "sync/atomic.LoadInt64", "sync/atomic.CompareAndSwapInt64"], apart := false, narrowed := true }
def DeltaOnceUptoSaid : Prop := deltaOnceUptoRow.holds Try.pinned (OpenSpec.upto deltaOnceSpec)

/-- 'concourselaw20.DeltaEnds', WHERE WHAT IT READS IS OF BULK AT MOST 1048576: true; the input reads as it did. -/
def deltaEndsUptoRow : OpenClaim := { program := "ytpfkgigfkonocaa", sum := "b76ff08258f6a9a683cc508e332b7bb2d9e682da58275e1a011df36b2407e5a7", func := "concourse/concourselaw20.DeltaEnds", spec := "deltaEnds", inPlace := ["sync/atomic.StoreInt64", "sync/atomic.LoadInt64", "sync/atomic.CompareAndSwapInt64"], apart := false, narrowed := true }
def DeltaEndsUptoSaid : Prop := deltaEndsUptoRow.holds Try.pinned (OpenSpec.upto deltaEndsSpec)

/-- 'concourselaw20.DeltaNews', WHERE WHAT IT READS IS OF BULK AT MOST 1048576: true; the input reads as it did. -/
def deltaNewsUptoRow : OpenClaim := { program := "ytpfkgigfkonocaa", sum := "b76ff08258f6a9a683cc508e332b7bb2d9e682da58275e1a011df36b2407e5a7", func := "concourse/concourselaw20.DeltaNews", spec := "deltaNews", inPlace := ["sync/atomic.StoreInt64", "sync/atomic.LoadInt64", "sync/atomic.CompareAndSwapInt64"], apart := false, narrowed := true }
def DeltaNewsUptoSaid : Prop := deltaNewsUptoRow.holds Try.pinned (OpenSpec.upto deltaNewsSpec)

/-- 'concourselaw20.DeltaSince', WHERE WHAT IT READS IS OF BULK AT MOST 1048576: true; the input reads as it did. -/
def deltaSinceUptoRow : OpenClaim := { program := "ytpfkgigfkonocaa", sum := "b76ff08258f6a9a683cc508e332b7bb2d9e682da58275e1a011df36b2407e5a7", func := "concourse/concourselaw20.DeltaSince", spec := "deltaSince", inPlace := ["sync/atomic.StoreInt64", "sync/atomic.LoadInt64", "sync/atomic.CompareAndSwapInt64"], apart := false, narrowed := true }
def DeltaSinceUptoSaid : Prop := deltaSinceUptoRow.holds Try.pinned (OpenSpec.upto deltaSinceSpec)

/-- 'concourselaw20.DeltaEach', WHERE WHAT IT READS IS OF BULK AT MOST 1048576: true; the input reads as it did. -/
def deltaEachUptoRow : OpenClaim := { program := "ytpfkgigfkonocaa", sum := "b76ff08258f6a9a683cc508e332b7bb2d9e682da58275e1a011df36b2407e5a7", func := "concourse/concourselaw20.DeltaEach", spec := "deltaEach", inPlace := ["sync/atomic.StoreInt64", "sync/atomic.LoadInt64", "sync/atomic.CompareAndSwapInt64"], unfollowed := true, recurses := true, apart := false, narrowed := true }
def DeltaEachUptoSaid : Prop := deltaEachUptoRow.holds Try.pinned (OpenSpec.upto deltaEachSpec)

end Rows
end Go.Proofs.Ytpfkgigfkonocaa
