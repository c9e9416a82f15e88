/-
  No cell of these rows narrows 'for every input' (looked for: loops, veiled, ifaces, maps, wideKeys, modest, calm, conditions, laid).
  DERIVED. THE GIVEN ROWS OF THIS SEAT. 5 by the template 'for every input the law returns true; each argument reads behind the call as it read before'; 0 by the template 'total and deterministic' (their statements: YtccppjhkffmnaaaTotals.lean).
  GIVEN WITH THE SEED: the statements are not yours to turn. If you find one false, say at which input.
  Laid BY PROGRAM, IN A SANDBOX (cutbox-rows.mjs): the forced cells as the released guide's own fill.sh prints them over the translation ae3a13b58cfdf972… (all of the seat's roots in one cut). By AI agents, Wed Nov 11 2026. No macro, syntax, notation, axiom, sorry.
-/
import Derived.Test.YtccppjhkffmnaaaChecked
import GoSem.Claim
import GoSem.ClaimJoined
import GoSem.ClaimMapViews
import Derived.JoinedTies
import Derived.KernelRfl
namespace Go.Proofs.Ytccppjhkffmnaaa
/- THE CELL 'sum', in the pinned program and in every row, IS THE sha256 OF THE DUMP (.gsa) THAT YtccppjhkffmnaaaProg.lean LOADS. Nothing in Lean hashes anything: it is a label: what it is worth is what the hold of that sum in a sandbox is worth. -/
noncomputable def Try.pinned : Pinned := { name := "ytccppjhkffmnaaa", sum := "ae3a13b58cfdf97262d9ee570fe5e06f11120e542dada5f5bee0e5e45932c33f", checked := Try.checked }
namespace Rows
def none {H : Type} : Left H := { results := [], args := [] }

/-- 'concourselaw12.ParkNews': WHATEVER THE INPUT: true; the input reads as it did. -/
def parkNewsSpec : ChangeSpec := { name := "parkNews", fn := fun _ => fun
  | [d] => { results := [.lit (.bool true)], args := [d] }
  | _ => none }
def parkNewsRow : OpenClaim := { program := "ytccppjhkffmnaaa", sum := "ae3a13b58cfdf97262d9ee570fe5e06f11120e542dada5f5bee0e5e45932c33f", func := "concourse/concourselaw12.ParkNews", spec := "parkNews", apart := false }
def ParkNewsSaid : Prop := parkNewsRow.holds Try.pinned (OpenSpec.ofChange parkNewsSpec)

/-- ITS FALSE NEIGHBOUR: 'it returns false'. Refute it at one input. -/
def parkNewsWrong : ChangeSpec := { name := "parkNews", fn := fun _ => fun
  | [d] => { results := [.lit (.bool false)], args := [d] }
  | _ => none }
def ParkNewsWrongFalsely : Prop := parkNewsRow.holds Try.pinned (OpenSpec.ofChange parkNewsWrong)

/-- 'concourselaw12.ParkTwice': WHATEVER THE INPUT: true; the input reads as it did. -/
def parkTwiceSpec : ChangeSpec := { name := "parkTwice", fn := fun _ => fun
  | [d1, d2] => { results := [.lit (.bool true)], args := [d1, d2] }
  | _ => none }
def parkTwiceRow : OpenClaim := { program := "ytccppjhkffmnaaa", sum := "ae3a13b58cfdf97262d9ee570fe5e06f11120e542dada5f5bee0e5e45932c33f", func := "concourse/concourselaw12.ParkTwice", spec := "parkTwice", recurses := true, apart := false }
def ParkTwiceSaid : Prop := parkTwiceRow.holds Try.pinned (OpenSpec.ofChange parkTwiceSpec)

/-- ITS FALSE NEIGHBOUR: 'it returns false'. Refute it at one input. -/
def parkTwiceWrong : ChangeSpec := { name := "parkTwice", fn := fun _ => fun
  | [d1, d2] => { results := [.lit (.bool false)], args := [d1, d2] }
  | _ => none }
def ParkTwiceWrongFalsely : Prop := parkTwiceRow.holds Try.pinned (OpenSpec.ofChange parkTwiceWrong)

/-- 'concourselaw12.ParkOwns': WHATEVER THE INPUT: true; the input reads as it did. -/
def parkOwnsSpec : ChangeSpec := { name := "parkOwns", fn := fun _ => fun
  | [d] => { results := [.lit (.bool true)], args := [d] }
  | _ => none }
def parkOwnsRow : OpenClaim := { program := "ytccppjhkffmnaaa", sum := "ae3a13b58cfdf97262d9ee570fe5e06f11120e542dada5f5bee0e5e45932c33f", func := "concourse/concourselaw12.ParkOwns", spec := "parkOwns", recurses := true, apart := false }
def ParkOwnsSaid : Prop := parkOwnsRow.holds Try.pinned (OpenSpec.ofChange parkOwnsSpec)

/-- ITS FALSE NEIGHBOUR: 'it returns false'. Refute it at one input. -/
def parkOwnsWrong : ChangeSpec := { name := "parkOwns", fn := fun _ => fun
  | [d] => { results := [.lit (.bool false)], args := [d] }
  | _ => none }
def ParkOwnsWrongFalsely : Prop := parkOwnsRow.holds Try.pinned (OpenSpec.ofChange parkOwnsWrong)

/-- 'concourselaw12.ParkPlays': WHATEVER THE INPUT: true; the input reads as it did. -/
def parkPlaysSpec : ChangeSpec := { name := "parkPlays", fn := fun _ => fun
  | [d1, d2, d3] => { results := [.lit (.bool true)], args := [d1, d2, d3] }
  | _ => none }
def parkPlaysRow : OpenClaim := { program := "ytccppjhkffmnaaa", sum := "ae3a13b58cfdf97262d9ee570fe5e06f11120e542dada5f5bee0e5e45932c33f", func := "concourse/concourselaw12.ParkPlays", spec := "parkPlays", unfollowed := true, recurses := true, apart := false }
def ParkPlaysSaid : Prop := parkPlaysRow.holds Try.pinned (OpenSpec.ofChange parkPlaysSpec)

/-- ITS FALSE NEIGHBOUR: 'it returns false'. Refute it at one input. -/
def parkPlaysWrong : ChangeSpec := { name := "parkPlays", fn := fun _ => fun
  | [d1, d2, d3] => { results := [.lit (.bool false)], args := [d1, d2, d3] }
  | _ => none }
def ParkPlaysWrongFalsely : Prop := parkPlaysRow.holds Try.pinned (OpenSpec.ofChange parkPlaysWrong)

/-- 'concourselaw12.ParkCounts': WHATEVER THE INPUT: true; the input reads as it did. -/
def parkCountsSpec : ChangeSpec := { name := "parkCounts", fn := fun _ => fun
  | [d1, d2, d3] => { results := [.lit (.bool true)], args := [d1, d2, d3] }
  | _ => none }
def parkCountsRow : OpenClaim := { program := "ytccppjhkffmnaaa", sum := "ae3a13b58cfdf97262d9ee570fe5e06f11120e542dada5f5bee0e5e45932c33f", func := "concourse/concourselaw12.ParkCounts", spec := "parkCounts", unfollowed := true, recurses := true, apart := false }
def ParkCountsSaid : Prop := parkCountsRow.holds Try.pinned (OpenSpec.ofChange parkCountsSpec)

/-- ITS FALSE NEIGHBOUR: 'it returns false'. Refute it at one input. -/
def parkCountsWrong : ChangeSpec := { name := "parkCounts", fn := fun _ => fun
  | [d1, d2, d3] => { results := [.lit (.bool false)], args := [d1, d2, d3] }
  | _ => none }
def ParkCountsWrongFalsely : Prop := parkCountsRow.holds Try.pinned (OpenSpec.ofChange parkCountsWrong)

/- THE SECOND FORM. 'bulk': how many values and letters a reading holds, each counted each time it is reached (what is shared counts as often as it is met; a slice's spare places count too). A statement '..UptoSaid' is the law's where the arguments, and the package variables that the reading takes, are together of bulk at most 1048576: NARROWER than '..Said'. Prove '..Said' where nothing that the law and all that it calls make is longer than what came in: it says more and counts as full. Else prove '..UptoSaid'. A law counts once. -/
mutual
def uptoBulk {H : Type} : DataW H → Nat
  | .lit (.string bytes) => bytes.length + 1
  | .lit _ => 1
  | .nil => 1
  | .ptr d => uptoBulk d + 1
  | .slice elems spare => uptoBulkAll elems + uptoBulkAll spare + 1
  | .agg parts => uptoBulkAll parts + 1
  | .iface _ d => uptoBulk d + 1
  | .map entries => uptoBulkEntries entries + 1
  | .held _ => 1
def uptoBulkAll {H : Type} : List (DataW H) → Nat
  | [] => 0
  | d :: r => uptoBulk d + uptoBulkAll r
def uptoBulkEntries {H : Type} : List (Lit × DataW H) → Nat
  | [] => 0
  | x :: r => uptoBulkEntry x + uptoBulkEntries r
def uptoBulkEntry {H : Type} : Lit × DataW H → Nat
  | (.string bytes, d) => bytes.length + uptoBulk d + 1
  | (_, d) => uptoBulk d + 1
 end
def uptoSmall : (H : Type) → List (DataW H) → Bool := fun _ ds => decide (uptoBulkAll ds ≤ 1048576)
def OpenSpec.upto (s : _root_.Go.ChangeSpec) : _root_.Go.OpenSpec := { _root_.Go.OpenSpec.ofChange s with cond := some uptoSmall }

/-- 'concourselaw12.ParkNews', WHERE WHAT IT READS IS OF BULK AT MOST 1048576: true; the input reads as it did. -/
def parkNewsUptoRow : OpenClaim := { program := "ytccppjhkffmnaaa", sum := "ae3a13b58cfdf97262d9ee570fe5e06f11120e542dada5f5bee0e5e45932c33f", func := "concourse/concourselaw12.ParkNews", spec := "parkNews", apart := false, narrowed := true }
def ParkNewsUptoSaid : Prop := parkNewsUptoRow.holds Try.pinned (OpenSpec.upto parkNewsSpec)

/-- 'concourselaw12.ParkTwice', WHERE WHAT IT READS IS OF BULK AT MOST 1048576: true; the input reads as it did. -/
def parkTwiceUptoRow : OpenClaim := { program := "ytccppjhkffmnaaa", sum := "ae3a13b58cfdf97262d9ee570fe5e06f11120e542dada5f5bee0e5e45932c33f", func := "concourse/concourselaw12.ParkTwice", spec := "parkTwice", recurses := true, apart := false, narrowed := true }
def ParkTwiceUptoSaid : Prop := parkTwiceUptoRow.holds Try.pinned (OpenSpec.upto parkTwiceSpec)

/-- 'concourselaw12.ParkOwns', WHERE WHAT IT READS IS OF BULK AT MOST 1048576: true; the input reads as it did. -/
def parkOwnsUptoRow : OpenClaim := { program := "ytccppjhkffmnaaa", sum := "ae3a13b58cfdf97262d9ee570fe5e06f11120e542dada5f5bee0e5e45932c33f", func := "concourse/concourselaw12.ParkOwns", spec := "parkOwns", recurses := true, apart := false, narrowed := true }
def ParkOwnsUptoSaid : Prop := parkOwnsUptoRow.holds Try.pinned (OpenSpec.upto parkOwnsSpec)

/-- 'concourselaw12.ParkPlays', WHERE WHAT IT READS IS OF BULK AT MOST 1048576: true; the input reads as it did. -/
def parkPlaysUptoRow : OpenClaim := { program := "ytccppjhkffmnaaa", sum := "ae3a13b58cfdf97262d9ee570fe5e06f11120e542dada5f5bee0e5e45932c33f", func := "concourse/concourselaw12.ParkPlays", spec := "parkPlays", unfollowed := true, recurses := true, apart := false, narrowed := true }
def ParkPlaysUptoSaid : Prop := parkPlaysUptoRow.holds Try.pinned (OpenSpec.upto parkPlaysSpec)

/-- 'concourselaw12.ParkCounts', WHERE WHAT IT READS IS OF BULK AT MOST 1048576: true; the input reads as it did. -/
def parkCountsUptoRow : OpenClaim := { program := "ytccppjhkffmnaaa", sum := "ae3a13b58cfdf97262d9ee570fe5e06f11120e542dada5f5bee0e5e45932c33f", func := "concourse/concourselaw12.ParkCounts", spec := "parkCounts", unfollowed := true, recurses := true, apart := false, narrowed := true }
def ParkCountsUptoSaid : Prop := parkCountsUptoRow.holds Try.pinned (OpenSpec.upto parkCountsSpec)

end Rows
end Go.Proofs.Ytccppjhkffmnaaa
