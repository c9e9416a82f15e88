/- A row's reading of []api.Edu (with the bounds of all its texts) and of []bool, opened. -/
import Derived.Test.YtccppjhkffmnaaaPPlaysW
import Derived.Test.YtccppjhkffmnaaaEduO
namespace Go.Proofs.Ytccppjhkffmnaaa
set_option linter.unusedVariables false
set_option linter.unusedSimpArgs false
open Go.ChangeShapes Go.WideShapes Go.ChangeAt Go.RowKit

theorem edu2_open {H : Type} {enc : TypeId × Value → H} {w : World} {spare : Nat → Bool} {held : Bool} (n : Nat) (cs : List Value) (y : DataW H × List MemPlace) (h : DataW.trod enc Try.prog w 0 spare held n 32 cs = some y) : ∃ d, EduR2 w d cs := by
  obtain ⟨d, hd⟩ := edu_open n cs y h
  have hcs : cs = d.cells := hd.1
  subst hcs
  refine ⟨d, hd, ?_⟩
  obtain ⟨xs, m, _, -, hl, hlen, hf⟩ := DataW.trod_struct Try.underlying32 h
  have one3 : Try.prog.cellsOf 3 = 1 := by kernel_rfl
  have one9 : Try.prog.cellsOf 9 = 1 := by kernel_rfl
  have one4 : Try.prog.cellsOf 4 = 1 := by kernel_rfl
  match xs, hlen with
  | [y0, y1, y2, y3, y4, y5, y6, y7, y8, y9, y10], _ =>
    have h1 := hf 1 _ rfl
    have h2 := hf 2 _ rfl
    have h3 := hf 3 _ rfl
    have h4 := hf 4 _ rfl
    simp only [Edu.cells, one3, one4, one9, List.drop_zero, List.drop_succ_cons, List.take_succ_cons, List.take_zero, List.getElem?_cons_zero, List.getElem?_cons_succ] at h1 h2 h3 h4
    obtain ⟨s1, e1, -, z1⟩ := DataW.trod_string Try.underlying9 h1
    obtain ⟨s2, e2, -, z2⟩ := DataW.trod_string Try.underlying9 h2
    obtain ⟨s3, e3, -, z3⟩ := DataW.trod_string Try.underlying9 h3
    obtain ⟨s4, e4, -, z4⟩ := DataW.trod_string Try.underlying9 h4
    injection e1 with e1; injection e1 with e1; subst e1
    injection e2 with e2; injection e2 with e2; subst e2
    injection e3 with e3; injection e3 with e3; subst e3
    injection e4 with e4; injection e4 with e4; subst e4
    exact ⟨⟨by simpa [maxLen] using z1, by simpa [maxLen] using z2⟩, by simpa [maxLen] using z3, by simpa [maxLen] using z4⟩
theorem bool_open {H : Type} {enc : TypeId × Value → H} {w : World} {spare : Nat → Bool} {held : Bool} (n : Nat) (cs : List Value) (y : DataW H × List MemPlace) (h : DataW.trod enc Try.prog w 0 spare held n 4 cs = some y) : ∃ d, BoolR w d cs := by
  obtain ⟨s, e0, -⟩ := DataW.trod_bool Try.underlying4 h
  exact ⟨s, e0⟩
end Go.Proofs.Ytccppjhkffmnaaa
