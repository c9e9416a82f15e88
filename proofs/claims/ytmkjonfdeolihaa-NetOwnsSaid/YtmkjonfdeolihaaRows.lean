/-
  No cell of these rows narrows 'for every input' (looked for: loops, veiled, ifaces, maps, wideKeys, modest, calm, conditions, laid).
  DERIVED. THE GIVEN ROWS OF THIS SEAT. 5 by the template 'for every input the law returns true; each argument reads behind the call as it read before'; 0 by the template 'total and deterministic' (their statements: YtmkjonfdeolihaaTotals.lean).
  GIVEN WITH THE SEED: the statements are not yours to turn. If you find one false, say at which input.
  Laid BY PROGRAM, IN A SANDBOX (cutbox-rows.mjs): the forced cells as the released guide's own fill.sh prints them over the translation 62b04dd6e88cbd00… (all of the seat's roots in one cut). By AI agents, Wed Nov 11 2026. No macro, syntax, notation, axiom, sorry.
-/
import Derived.Test.YtmkjonfdeolihaaChecked
import GoSem.Claim
import GoSem.ClaimJoined
import GoSem.ClaimMapViews
import Derived.JoinedTies
import Derived.KernelRfl
namespace Go.Proofs.Ytmkjonfdeolihaa
/- THE CELL 'sum', in the pinned program and in every row, IS THE sha256 OF THE DUMP (.gsa) THAT YtmkjonfdeolihaaProg.lean LOADS. Nothing in Lean hashes anything: it is a label: what it is worth is what the hold of that sum in a sandbox is worth. -/
noncomputable def Try.pinned : Pinned := { name := "ytmkjonfdeolihaa", sum := "62b04dd6e88cbd00ad75849dd60f9e9cf54675fef09acbb2beb10591e8cd9307", checked := Try.checked }
namespace Rows
def none {H : Type} : Left H := { results := [], args := [] }

/-- 'concourselaw23.NetNews': WHATEVER THE INPUT: true; the input reads as it did. -/
def netNewsSpec : ChangeSpec := { name := "netNews", fn := fun _ => fun
  | [d] => { results := [.lit (.bool true)], args := [d] }
  | _ => none }
def netNewsRow : OpenClaim := { program := "ytmkjonfdeolihaa", sum := "62b04dd6e88cbd00ad75849dd60f9e9cf54675fef09acbb2beb10591e8cd9307", func := "concourse/concourselaw23.NetNews", spec := "netNews", apart := false }
def NetNewsSaid : Prop := netNewsRow.holds Try.pinned (OpenSpec.ofChange netNewsSpec)

/-- ITS FALSE NEIGHBOUR: 'it returns false'. Refute it at one input. -/
def netNewsWrong : ChangeSpec := { name := "netNews", fn := fun _ => fun
  | [d] => { results := [.lit (.bool false)], args := [d] }
  | _ => none }
def NetNewsWrongFalsely : Prop := netNewsRow.holds Try.pinned (OpenSpec.ofChange netNewsWrong)

/-- 'concourselaw23.NetTakes': WHATEVER THE INPUT: true; the input reads as it did. -/
def netTakesSpec : ChangeSpec := { name := "netTakes", fn := fun _ => fun
  | [d1, d2] => { results := [.lit (.bool true)], args := [d1, d2] }
  | _ => none }
def netTakesRow : OpenClaim := { program := "ytmkjonfdeolihaa", sum := "62b04dd6e88cbd00ad75849dd60f9e9cf54675fef09acbb2beb10591e8cd9307", func := "concourse/concourselaw23.NetTakes", spec := "netTakes", apart := false }
def NetTakesSaid : Prop := netTakesRow.holds Try.pinned (OpenSpec.ofChange netTakesSpec)

/-- ITS FALSE NEIGHBOUR: 'it returns false'. Refute it at one input. -/
def netTakesWrong : ChangeSpec := { name := "netTakes", fn := fun _ => fun
  | [d1, d2] => { results := [.lit (.bool false)], args := [d1, d2] }
  | _ => none }
def NetTakesWrongFalsely : Prop := netTakesRow.holds Try.pinned (OpenSpec.ofChange netTakesWrong)

/-- 'concourselaw23.NetOwns': WHATEVER THE INPUT: true; the input reads as it did. -/
def netOwnsSpec : ChangeSpec := { name := "netOwns", fn := fun _ => fun
  | [d] => { results := [.lit (.bool true)], args := [d] }
  | _ => none }
def netOwnsRow : OpenClaim := { program := "ytmkjonfdeolihaa", sum := "62b04dd6e88cbd00ad75849dd60f9e9cf54675fef09acbb2beb10591e8cd9307", func := "concourse/concourselaw23.NetOwns", spec := "netOwns", apart := false }
def NetOwnsSaid : Prop := netOwnsRow.holds Try.pinned (OpenSpec.ofChange netOwnsSpec)

/-- ITS FALSE NEIGHBOUR: 'it returns false'. Refute it at one input. -/
def netOwnsWrong : ChangeSpec := { name := "netOwns", fn := fun _ => fun
  | [d] => { results := [.lit (.bool false)], args := [d] }
  | _ => none }
def NetOwnsWrongFalsely : Prop := netOwnsRow.holds Try.pinned (OpenSpec.ofChange netOwnsWrong)

/-- 'concourselaw23.NetPlays': WHATEVER THE INPUT: true; the input reads as it did. -/
def netPlaysSpec : ChangeSpec := { name := "netPlays", fn := fun _ => fun
  | [d1, d2] => { results := [.lit (.bool true)], args := [d1, d2] }
  | _ => none }
def netPlaysRow : OpenClaim := { program := "ytmkjonfdeolihaa", sum := "62b04dd6e88cbd00ad75849dd60f9e9cf54675fef09acbb2beb10591e8cd9307", func := "concourse/concourselaw23.NetPlays", spec := "netPlays", apart := false }
def NetPlaysSaid : Prop := netPlaysRow.holds Try.pinned (OpenSpec.ofChange netPlaysSpec)

/-- ITS FALSE NEIGHBOUR: 'it returns false'. Refute it at one input. -/
def netPlaysWrong : ChangeSpec := { name := "netPlays", fn := fun _ => fun
  | [d1, d2] => { results := [.lit (.bool false)], args := [d1, d2] }
  | _ => none }
def NetPlaysWrongFalsely : Prop := netPlaysRow.holds Try.pinned (OpenSpec.ofChange netPlaysWrong)

/-- 'concourselaw23.NetFull': WHATEVER THE INPUT: true; the input reads as it did. -/
def netFullSpec : ChangeSpec := { name := "netFull", fn := fun _ => fun
  | [d1, d2] => { results := [.lit (.bool true)], args := [d1, d2] }
  | _ => none }
def netFullRow : OpenClaim := { program := "ytmkjonfdeolihaa", sum := "62b04dd6e88cbd00ad75849dd60f9e9cf54675fef09acbb2beb10591e8cd9307", func := "concourse/concourselaw23.NetFull", spec := "netFull", recurses := true, apart := false }
def NetFullSaid : Prop := netFullRow.holds Try.pinned (OpenSpec.ofChange netFullSpec)

/-- ITS FALSE NEIGHBOUR: 'it returns false'. Refute it at one input. -/
def netFullWrong : ChangeSpec := { name := "netFull", fn := fun _ => fun
  | [d1, d2] => { results := [.lit (.bool false)], args := [d1, d2] }
  | _ => none }
def NetFullWrongFalsely : Prop := netFullRow.holds Try.pinned (OpenSpec.ofChange netFullWrong)

/- THE SECOND FORM. 'bulk': how many values and letters a reading holds, each counted each time it is reached (what is shared counts as often as it is met; a slice's spare places count too). A statement '..UptoSaid' is the law's where the arguments, and the package variables that the reading takes, are together of bulk at most 1048576: NARROWER than '..Said'. Prove '..Said' where nothing that the law and all that it calls make is longer than what came in: it says more and counts as full. Else prove '..UptoSaid'. A law counts once. -/
mutual
def uptoBulk {H : Type} : DataW H → Nat
  | .lit (.string bytes) => bytes.length + 1
  | .lit _ => 1
  | .nil => 1
  | .ptr d => uptoBulk d + 1
  | .slice elems spare => uptoBulkAll elems + uptoBulkAll spare + 1
  | .agg parts => uptoBulkAll parts + 1
  | .iface _ d => uptoBulk d + 1
  | .map entries => uptoBulkEntries entries + 1
  | .held _ => 1
def uptoBulkAll {H : Type} : List (DataW H) → Nat
  | [] => 0
  | d :: r => uptoBulk d + uptoBulkAll r
def uptoBulkEntries {H : Type} : List (Lit × DataW H) → Nat
  | [] => 0
  | x :: r => uptoBulkEntry x + uptoBulkEntries r
def uptoBulkEntry {H : Type} : Lit × DataW H → Nat
  | (.string bytes, d) => bytes.length + uptoBulk d + 1
  | (_, d) => uptoBulk d + 1
 end
def uptoSmall : (H : Type) → List (DataW H) → Bool := fun _ ds => decide (uptoBulkAll ds ≤ 1048576)
def OpenSpec.upto (s : _root_.Go.ChangeSpec) : _root_.Go.OpenSpec := { _root_.Go.OpenSpec.ofChange s with cond := some uptoSmall }

/-- 'concourselaw23.NetNews', WHERE WHAT IT READS IS OF BULK AT MOST 1048576: true; the input reads as it did. -/
def netNewsUptoRow : OpenClaim := { program := "ytmkjonfdeolihaa", sum := "62b04dd6e88cbd00ad75849dd60f9e9cf54675fef09acbb2beb10591e8cd9307", func := "concourse/concourselaw23.NetNews", spec := "netNews", apart := false, narrowed := true }
def NetNewsUptoSaid : Prop := netNewsUptoRow.holds Try.pinned (OpenSpec.upto netNewsSpec)

/-- 'concourselaw23.NetTakes', WHERE WHAT IT READS IS OF BULK AT MOST 1048576: true; the input reads as it did. -/
def netTakesUptoRow : OpenClaim := { program := "ytmkjonfdeolihaa", sum := "62b04dd6e88cbd00ad75849dd60f9e9cf54675fef09acbb2beb10591e8cd9307", func := "concourse/concourselaw23.NetTakes", spec := "netTakes", apart := false, narrowed := true }
def NetTakesUptoSaid : Prop := netTakesUptoRow.holds Try.pinned (OpenSpec.upto netTakesSpec)

/-- 'concourselaw23.NetOwns', WHERE WHAT IT READS IS OF BULK AT MOST 1048576: true; the input reads as it did. -/
def netOwnsUptoRow : OpenClaim := { program := "ytmkjonfdeolihaa", sum := "62b04dd6e88cbd00ad75849dd60f9e9cf54675fef09acbb2beb10591e8cd9307", func := "concourse/concourselaw23.NetOwns", spec := "netOwns", apart := false, narrowed := true }
def NetOwnsUptoSaid : Prop := netOwnsUptoRow.holds Try.pinned (OpenSpec.upto netOwnsSpec)

/-- 'concourselaw23.NetPlays', WHERE WHAT IT READS IS OF BULK AT MOST 1048576: true; the input reads as it did. -/
def netPlaysUptoRow : OpenClaim := { program := "ytmkjonfdeolihaa", sum := "62b04dd6e88cbd00ad75849dd60f9e9cf54675fef09acbb2beb10591e8cd9307", func := "concourse/concourselaw23.NetPlays", spec := "netPlays", apart := false, narrowed := true }
def NetPlaysUptoSaid : Prop := netPlaysUptoRow.holds Try.pinned (OpenSpec.upto netPlaysSpec)

/-- 'concourselaw23.NetFull', WHERE WHAT IT READS IS OF BULK AT MOST 1048576: true; the input reads as it did. -/
def netFullUptoRow : OpenClaim := { program := "ytmkjonfdeolihaa", sum := "62b04dd6e88cbd00ad75849dd60f9e9cf54675fef09acbb2beb10591e8cd9307", func := "concourse/concourselaw23.NetFull", spec := "netFull", recurses := true, apart := false, narrowed := true }
def NetFullUptoSaid : Prop := netFullUptoRow.holds Try.pinned (OpenSpec.upto netFullSpec)

end Rows
end Go.Proofs.Ytmkjonfdeolihaa
