/- A row's reading of []Deed, opened. -/
import Derived.Test.YtmkjonfdeolihaaTakesW
import Derived.Lib.SmallJoins
namespace Go.Proofs.Ytmkjonfdeolihaa
set_option linter.unusedVariables false
set_option linter.unusedSimpArgs false
open Go.ChangeShapes Go.WideShapes Go.ChangeAt Go.RowKit

theorem deed_open {H : Type} {enc : TypeId × Value → H} {w : World} {spare : Nat → Bool} {held : Bool} (n : Nat) (cs : List Value) (y : DataW H × List MemPlace) (h : DataW.trod enc Try.prog w 0 spare held n 39 cs = some y) : ∃ d, DeedR w d cs := by
  obtain ⟨y0, y1, y2, y3, m, -, hl, h0, h1, h2, h3⟩ := Go.Joins.trod_struct4 Try.underlying39 h
  have hl4 : cs.length = 4 := by rw [hl]; kernel_rfl
  have one3 : Try.prog.cellsOf 3 = 1 := by kernel_rfl
  have one9 : Try.prog.cellsOf 9 = 1 := by kernel_rfl
  have one34 : Try.prog.cellsOf 34 = 1 := by kernel_rfl
  match cs, hl4 with
  | [c0, c1, c2, c3], _ =>
    simp only [one3, one9, one34, List.drop_zero, List.drop_succ_cons, List.take_succ_cons, List.take_zero] at h0 h1 h2 h3
    obtain ⟨z0, e0, -, w0⟩ := DataW.trod_int Try.underlying3 h0
    obtain ⟨z1, e1, -, w1⟩ := DataW.trod_int Try.underlying3 h1
    obtain ⟨s, e2, -, hs⟩ := DataW.trod_string Try.underlying9 h2
    obtain ⟨A, bs, c, e3, hb, hb2, hB⟩ := open_bytes Try.underlying34 Try.underlying5 (by kernel_rfl) h3
    cases e0; cases e1; cases e2; cases e3
    exact ⟨⟨z0, z1, s, A, bs, c⟩, rfl, hb, hb2, hB, by simpa [maxLen] using hs, (wf_i64 w0).1, (wf_i64 w0).2, (wf_i64 w1).1, (wf_i64 w1).2⟩
end Go.Proofs.Ytmkjonfdeolihaa
