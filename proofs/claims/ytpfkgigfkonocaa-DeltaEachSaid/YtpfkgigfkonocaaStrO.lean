/- A row's reading of []string and []bool, opened. -/
import Derived.Test.YtpfkgigfkonocaaDOnceW
import Derived.Lib.SmallJoins
import Derived.ChangeSame
namespace Go.Proofs.Ytpfkgigfkonocaa
set_option linter.unusedVariables false
set_option linter.unusedSimpArgs false
open Go.ChangeShapes Go.WideShapes Go.ChangeAt Go.RowKit

theorem str_open {H : Type} {enc : TypeId × Value → H} {w : World} {spare : Nat → Bool} {held : Bool} (n : Nat) (cs : List Value) (y : DataW H × List MemPlace) (h : DataW.trod enc Try.prog w 0 spare held n 9 cs = some y) : ∃ d, StrR w d cs := by
  obtain ⟨s, e0, -, hs⟩ := DataW.trod_string Try.underlying9 h
  exact ⟨s, e0, by simpa [maxLen] using hs⟩
theorem bool_open {H : Type} {enc : TypeId × Value → H} {w : World} {spare : Nat → Bool} {held : Bool} (n : Nat) (cs : List Value) (y : DataW H × List MemPlace) (h : DataW.trod enc Try.prog w 0 spare held n 4 cs = some y) : ∃ d, BoolR w d cs := by
  obtain ⟨s, e0, -⟩ := DataW.trod_bool Try.underlying4 h
  exact ⟨s, e0⟩
end Go.Proofs.Ytpfkgigfkonocaa
