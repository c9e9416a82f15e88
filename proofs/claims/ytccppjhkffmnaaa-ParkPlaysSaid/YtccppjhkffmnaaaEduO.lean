/- A row's reading of []api.Edu, opened. -/
import Derived.Test.YtccppjhkffmnaaaTwiceW
import Derived.Lib.SmallJoins
import Derived.ChangeSame
namespace Go.Proofs.Ytccppjhkffmnaaa
set_option linter.unusedVariables false
set_option linter.unusedSimpArgs false
open Go.ChangeShapes Go.WideShapes Go.ChangeAt Go.RowKit

theorem edu_open {H : Type} {enc : TypeId × Value → H} {w : World} {spare : Nat → Bool} {held : Bool} (n : Nat) (cs : List Value) (y : DataW H × List MemPlace) (h : DataW.trod enc Try.prog w 0 spare held n 32 cs = some y) : ∃ d, EduR w d cs := by
  obtain ⟨xs, m, _, -, hl, hlen, hf⟩ := DataW.trod_struct Try.underlying32 h
  have hl2 : cs.length = 11 := by rw [hl]; kernel_rfl
  have one3 : Try.prog.cellsOf 3 = 1 := by kernel_rfl
  have one9 : Try.prog.cellsOf 9 = 1 := by kernel_rfl
  have one4 : Try.prog.cellsOf 4 = 1 := by kernel_rfl
  match xs, hlen, cs, hl2 with
  | [y0, y1, y2, y3, y4, y5, y6, y7, y8, y9, y10], _, [c0, c1, c2, c3, c4, c5, c6, c7, c8, c9, c10], _ =>
    have h0 := hf 0 _ rfl
    have h1 := hf 1 _ rfl
    have h2 := hf 2 _ rfl
    have h3 := hf 3 _ rfl
    have h4 := hf 4 _ rfl
    have h5 := hf 5 _ rfl
    have h6 := hf 6 _ rfl
    have h7 := hf 7 _ rfl
    have h8 := hf 8 _ rfl
    have h9 := hf 9 _ rfl
    have h10 := hf 10 _ rfl
    simp only [one3, one4, one9, List.drop_zero, List.drop_succ_cons, List.take_succ_cons, List.take_zero, List.getElem?_cons_zero, List.getElem?_cons_succ] at h0 h1 h2 h3 h4 h5 h6 h7 h8 h9 h10
    obtain ⟨k, e0, -, w0⟩ := DataW.trod_int Try.underlying3 h0
    obtain ⟨s1, e1, -, z1⟩ := DataW.trod_string Try.underlying9 h1
    obtain ⟨s2, e2, -, z2⟩ := DataW.trod_string Try.underlying9 h2
    obtain ⟨s3, e3, -, z3⟩ := DataW.trod_string Try.underlying9 h3
    obtain ⟨s4, e4, -, z4⟩ := DataW.trod_string Try.underlying9 h4
    obtain ⟨f5, e5, -⟩ := DataW.trod_bool Try.underlying4 h5
    obtain ⟨f6, e6, -⟩ := DataW.trod_bool Try.underlying4 h6
    obtain ⟨i7, e7, -, w7⟩ := DataW.trod_int Try.underlying3 h7
    obtain ⟨i8, e8, -, w8⟩ := DataW.trod_int Try.underlying3 h8
    obtain ⟨i9, e9, -, w9⟩ := DataW.trod_int Try.underlying3 h9
    obtain ⟨i10, e10, -, w10⟩ := DataW.trod_int Try.underlying3 h10
    cases e0; cases e1; cases e2; cases e3; cases e4; cases e5; cases e6; cases e7; cases e8; cases e9; cases e10
    exact ⟨⟨k, s1, s2, s3, s4, f5, f6, i7, i8, i9, i10⟩, rfl, ⟨(wf_i64 w7).1, (wf_i64 w7).2, (wf_i64 w8).1, (wf_i64 w8).2⟩, ⟨(wf_i64 w9).1, (wf_i64 w9).2, (wf_i64 w10).1, (wf_i64 w10).2⟩, by simpa [maxLen] using z3, by simpa [maxLen] using z4⟩
end Go.Proofs.Ytccppjhkffmnaaa
