/-
  No cell of these rows narrows 'for every input' (looked for: loops, veiled, ifaces, maps, wideKeys, modest, calm, conditions, laid).
  DERIVED. THE GIVEN ROWS OF THIS SEAT. 5 by the template 'for every input the law returns true; each argument reads behind the call as it read before'; 0 by the template 'total and deterministic' (their statements: YtbgiljhppnafoaaTotals.lean).
  GIVEN WITH THE SEED: the statements are not yours to turn. If you find one false, say at which input.
  Laid BY PROGRAM, IN A SANDBOX (cutbox-rows.mjs): the forced cells as the released guide's own fill.sh prints them over the translation 87e866cff84cd985… (all of the seat's roots in one cut). By AI agents, Wed Nov 11 2026. No macro, syntax, notation, axiom, sorry.
-/
import Derived.Test.YtbgiljhppnafoaaChecked
import GoSem.Claim
import GoSem.ClaimJoined
import GoSem.ClaimMapViews
import Derived.JoinedTies
import Derived.KernelRfl
namespace Go.Proofs.Ytbgiljhppnafoaa
/- THE CELL 'sum', in the pinned program and in every row, IS THE sha256 OF THE DUMP (.gsa) THAT YtbgiljhppnafoaaProg.lean LOADS. Nothing in Lean hashes anything: it is a label: what it is worth is what the hold of that sum in a sandbox is worth. -/
noncomputable def Try.pinned : Pinned := { name := "ytbgiljhppnafoaa", sum := "87e866cff84cd9851a76da9749ad0b751a0dac67981b3e754043e161d6942e66", checked := Try.checked }
namespace Rows
def none {H : Type} : Left H := { results := [], args := [] }

/-- 'concourselaw19.SeenLasts': WHATEVER THE INPUT: true; the input reads as it did. -/
def seenLastsSpec : ChangeSpec := { name := "seenLasts", fn := fun _ => fun
  | [d1, d2] => { results := [.lit (.bool true)], args := [d1, d2] }
  | _ => none }
def seenLastsRow : OpenClaim := { program := "ytbgiljhppnafoaa", sum := "87e866cff84cd9851a76da9749ad0b751a0dac67981b3e754043e161d6942e66", func := "concourse/concourselaw19.SeenLasts", spec := "seenLasts", unfollowed := true, recurses := true, apart := false }
def SeenLastsSaid : Prop := seenLastsRow.holds Try.pinned (OpenSpec.ofChange seenLastsSpec)

/-- ITS FALSE NEIGHBOUR: 'it returns false'. Refute it at one input. -/
def seenLastsWrong : ChangeSpec := { name := "seenLasts", fn := fun _ => fun
  | [d1, d2] => { results := [.lit (.bool false)], args := [d1, d2] }
  | _ => none }
def SeenLastsWrongFalsely : Prop := seenLastsRow.holds Try.pinned (OpenSpec.ofChange seenLastsWrong)

/-- 'concourselaw19.SeenNumbers': WHATEVER THE INPUT: true; the input reads as it did. -/
def seenNumbersSpec : ChangeSpec := { name := "seenNumbers", fn := fun _ => fun
  | [d1, d2] => { results := [.lit (.bool true)], args := [d1, d2] }
  | _ => none }
def seenNumbersRow : OpenClaim := { program := "ytbgiljhppnafoaa", sum := "87e866cff84cd9851a76da9749ad0b751a0dac67981b3e754043e161d6942e66", func := "concourse/concourselaw19.SeenNumbers", spec := "seenNumbers", unfollowed := true, recurses := true, apart := false }
def SeenNumbersSaid : Prop := seenNumbersRow.holds Try.pinned (OpenSpec.ofChange seenNumbersSpec)

/-- ITS FALSE NEIGHBOUR: 'it returns false'. Refute it at one input. -/
def seenNumbersWrong : ChangeSpec := { name := "seenNumbers", fn := fun _ => fun
  | [d1, d2] => { results := [.lit (.bool false)], args := [d1, d2] }
  | _ => none }
def SeenNumbersWrongFalsely : Prop := seenNumbersRow.holds Try.pinned (OpenSpec.ofChange seenNumbersWrong)

/-- 'concourselaw19.SeenNews': WHATEVER THE INPUT: true; the input reads as it did. -/
def seenNewsSpec : ChangeSpec := { name := "seenNews", fn := fun _ => fun
  | [d] => { results := [.lit (.bool true)], args := [d] }
  | _ => none }
def seenNewsRow : OpenClaim := { program := "ytbgiljhppnafoaa", sum := "87e866cff84cd9851a76da9749ad0b751a0dac67981b3e754043e161d6942e66", func := "concourse/concourselaw19.SeenNews", spec := "seenNews", unfollowed := true, recurses := true, apart := false }
def SeenNewsSaid : Prop := seenNewsRow.holds Try.pinned (OpenSpec.ofChange seenNewsSpec)

/-- ITS FALSE NEIGHBOUR: 'it returns false'. Refute it at one input. -/
def seenNewsWrong : ChangeSpec := { name := "seenNews", fn := fun _ => fun
  | [d] => { results := [.lit (.bool false)], args := [d] }
  | _ => none }
def SeenNewsWrongFalsely : Prop := seenNewsRow.holds Try.pinned (OpenSpec.ofChange seenNewsWrong)

/-- 'concourselaw19.SeenPlays': WHATEVER THE INPUT: true; the input reads as it did. -/
def seenPlaysSpec : ChangeSpec := { name := "seenPlays", fn := fun _ => fun
  | [d1, d2] => { results := [.lit (.bool true)], args := [d1, d2] }
  | _ => none }
def seenPlaysRow : OpenClaim := { program := "ytbgiljhppnafoaa", sum := "87e866cff84cd9851a76da9749ad0b751a0dac67981b3e754043e161d6942e66", func := "concourse/concourselaw19.SeenPlays", spec := "seenPlays", unfollowed := true, recurses := true, apart := false }
def SeenPlaysSaid : Prop := seenPlaysRow.holds Try.pinned (OpenSpec.ofChange seenPlaysSpec)

/-- ITS FALSE NEIGHBOUR: 'it returns false'. Refute it at one input. -/
def seenPlaysWrong : ChangeSpec := { name := "seenPlays", fn := fun _ => fun
  | [d1, d2] => { results := [.lit (.bool false)], args := [d1, d2] }
  | _ => none }
def SeenPlaysWrongFalsely : Prop := seenPlaysRow.holds Try.pinned (OpenSpec.ofChange seenPlaysWrong)

/-- 'concourselaw19.SeenApart': WHATEVER THE INPUT: true; the input reads as it did. -/
def seenApartSpec : ChangeSpec := { name := "seenApart", fn := fun _ => fun
  | [d1, d2, d3] => { results := [.lit (.bool true)], args := [d1, d2, d3] }
  | _ => none }
def seenApartRow : OpenClaim := { program := "ytbgiljhppnafoaa", sum := "87e866cff84cd9851a76da9749ad0b751a0dac67981b3e754043e161d6942e66", func := "concourse/concourselaw19.SeenApart", spec := "seenApart", unfollowed := true, recurses := true, apart := false }
def SeenApartSaid : Prop := seenApartRow.holds Try.pinned (OpenSpec.ofChange seenApartSpec)

/-- ITS FALSE NEIGHBOUR: 'it returns false'. Refute it at one input. -/
def seenApartWrong : ChangeSpec := { name := "seenApart", fn := fun _ => fun
  | [d1, d2, d3] => { results := [.lit (.bool false)], args := [d1, d2, d3] }
  | _ => none }
def SeenApartWrongFalsely : Prop := seenApartRow.holds Try.pinned (OpenSpec.ofChange seenApartWrong)

/- THE SECOND FORM. 'bulk': how many values and letters a reading holds, each counted each time it is reached (what is shared counts as often as it is met; a slice's spare places count too). A statement '..UptoSaid' is the law's where the arguments, and the package variables that the reading takes, are together of bulk at most 1048576: NARROWER than '..Said'. Prove '..Said' where nothing that the law and all that it calls make is longer than what came in: it says more and counts as full. Else prove '..UptoSaid'. A law counts once. -/
mutual
def uptoBulk {H : Type} : DataW H → Nat
  | .lit (.string bytes) => bytes.length + 1
  | .lit _ => 1
  | .nil => 1
  | .ptr d => uptoBulk d + 1
  | .slice elems spare => uptoBulkAll elems + uptoBulkAll spare + 1
  | .agg parts => uptoBulkAll parts + 1
  | .iface _ d => uptoBulk d + 1
  | .map entries => uptoBulkEntries entries + 1
  | .held _ => 1
def uptoBulkAll {H : Type} : List (DataW H) → Nat
  | [] => 0
  | d :: r => uptoBulk d + uptoBulkAll r
def uptoBulkEntries {H : Type} : List (Lit × DataW H) → Nat
  | [] => 0
  | x :: r => uptoBulkEntry x + uptoBulkEntries r
def uptoBulkEntry {H : Type} : Lit × DataW H → Nat
  | (.string bytes, d) => bytes.length + uptoBulk d + 1
  | (_, d) => uptoBulk d + 1
 end
def uptoSmall : (H : Type) → List (DataW H) → Bool := fun _ ds => decide (uptoBulkAll ds ≤ 1048576)
def OpenSpec.upto (s : _root_.Go.ChangeSpec) : _root_.Go.OpenSpec := { _root_.Go.OpenSpec.ofChange s with cond := some uptoSmall }

/-- 'concourselaw19.SeenLasts', WHERE WHAT IT READS IS OF BULK AT MOST 1048576: true; the input reads as it did. -/
def seenLastsUptoRow : OpenClaim := { program := "ytbgiljhppnafoaa", sum := "87e866cff84cd9851a76da9749ad0b751a0dac67981b3e754043e161d6942e66", func := "concourse/concourselaw19.SeenLasts", spec := "seenLasts", unfollowed := true, recurses := true, apart := false, narrowed := true }
def SeenLastsUptoSaid : Prop := seenLastsUptoRow.holds Try.pinned (OpenSpec.upto seenLastsSpec)

/-- 'concourselaw19.SeenNumbers', WHERE WHAT IT READS IS OF BULK AT MOST 1048576: true; the input reads as it did. -/
def seenNumbersUptoRow : OpenClaim := { program := "ytbgiljhppnafoaa", sum := "87e866cff84cd9851a76da9749ad0b751a0dac67981b3e754043e161d6942e66", func := "concourse/concourselaw19.SeenNumbers", spec := "seenNumbers", unfollowed := true, recurses := true, apart := false, narrowed := true }
def SeenNumbersUptoSaid : Prop := seenNumbersUptoRow.holds Try.pinned (OpenSpec.upto seenNumbersSpec)

/-- 'concourselaw19.SeenNews', WHERE WHAT IT READS IS OF BULK AT MOST 1048576: true; the input reads as it did. -/
def seenNewsUptoRow : OpenClaim := { program := "ytbgiljhppnafoaa", sum := "87e866cff84cd9851a76da9749ad0b751a0dac67981b3e754043e161d6942e66", func := "concourse/concourselaw19.SeenNews", spec := "seenNews", unfollowed := true, recurses := true, apart := false, narrowed := true }
def SeenNewsUptoSaid : Prop := seenNewsUptoRow.holds Try.pinned (OpenSpec.upto seenNewsSpec)

/-- 'concourselaw19.SeenPlays', WHERE WHAT IT READS IS OF BULK AT MOST 1048576: true; the input reads as it did. -/
def seenPlaysUptoRow : OpenClaim := { program := "ytbgiljhppnafoaa", sum := "87e866cff84cd9851a76da9749ad0b751a0dac67981b3e754043e161d6942e66", func := "concourse/concourselaw19.SeenPlays", spec := "seenPlays", unfollowed := true, recurses := true, apart := false, narrowed := true }
def SeenPlaysUptoSaid : Prop := seenPlaysUptoRow.holds Try.pinned (OpenSpec.upto seenPlaysSpec)

/-- 'concourselaw19.SeenApart', WHERE WHAT IT READS IS OF BULK AT MOST 1048576: true; the input reads as it did. -/
def seenApartUptoRow : OpenClaim := { program := "ytbgiljhppnafoaa", sum := "87e866cff84cd9851a76da9749ad0b751a0dac67981b3e754043e161d6942e66", func := "concourse/concourselaw19.SeenApart", spec := "seenApart", unfollowed := true, recurses := true, apart := false, narrowed := true }
def SeenApartUptoSaid : Prop := seenApartUptoRow.holds Try.pinned (OpenSpec.upto seenApartSpec)

end Rows
end Go.Proofs.Ytbgiljhppnafoaa
