/- A row's reading of notes ([]concourseref19.N), opened. -/
import Derived.Test.YtbgiljhppnafoaaSPlaysW
import Derived.Lib.SmallJoins
import Derived.ChangeSame
namespace Go.Proofs.Ytbgiljhppnafoaa
set_option linter.unusedVariables false
set_option linter.unusedSimpArgs false
open Go.ChangeShapes Go.WideShapes Go.ChangeAt Go.RowKit

theorem note_open {H : Type} {enc : TypeId × Value → H} {w : World} {spare : Nat → Bool} {held : Bool} (n : Nat) (cs : List Value) (y : DataW H × List MemPlace) (h : DataW.trod enc Try.prog w 0 spare held n 37 cs = some y) : ∃ d, NoteR w d cs := by
  obtain ⟨y0, y1, m, -, hl, h0, h1⟩ := trod_struct2 Try.underlying37 h
  have hl2 : cs.length = 2 := by rw [hl]; kernel_rfl
  have one3 : Try.prog.cellsOf 3 = 1 := by kernel_rfl
  have one9 : Try.prog.cellsOf 9 = 1 := by kernel_rfl
  match cs, hl2 with
  | [c0, c1], _ =>
    simp only [one3, one9, List.drop_zero, List.drop_succ_cons, List.take_succ_cons, List.take_zero] at h0 h1
    obtain ⟨s, e0, -, hs⟩ := DataW.trod_string Try.underlying9 h0
    obtain ⟨z, e1, -, w1⟩ := DataW.trod_int Try.underlying3 h1
    cases e0; cases e1
    exact ⟨(s, z), rfl, by simpa [maxLen] using hs⟩
end Go.Proofs.Ytbgiljhppnafoaa
