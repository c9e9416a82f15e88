/- ClockPlays: the reference's contracts, and the walk. -/
import Derived.Test.YtnpahdcepbnamaaClockW
import Derived.Test.YtnpahdcepbnamaaSig
import Derived.Test.YtnpahdcepbnamaaOpenB
import Derived.BigQuiet
import Derived.BigRegion
namespace Go.Proofs.Ytnpahdcepbnamaa
set_option linter.unusedVariables false
set_option linter.unusedSimpArgs false
open Go.RowKit

set_option maxHeartbeats 800000 in
theorem rnew_yes (from_ most : Int) (w : World) (h0 : 0 ≤ from_) (h1 : from_ ≤ most) (h2 : 1 ≤ most) (h3 : most ≤ 1099511627776) :
    Calls Try.prog 13 #[.int .i64 from_, .int .i64 most] w fun e w' => e = .returned (.tuple #[.agg #[.int .i64 from_, .int .i64 most], .int .i64 0]) ∧ Chg NoM w w' := by
  go_enter Try.func13, Try.ntmps13
  go_wp2_with fail
  refine bodyPost_ret (v := .tuple #[.agg #[.int .i64 from_, .int .i64 most], .int .i64 0]) (by simp [results, Try.results13, go_sem]) rfl ⟨rfl, ?_⟩
  repeat (first | exact Chg.refl _ | apply Chg.alloc | refine Chg.setNew ?_ (by omega))

set_option maxHeartbeats 800000 in
theorem rnew_no (from_ most : Int) (w : World) (h : most < 1 ∨ 1099511627776 < most ∨ from_ < 0 ∨ most < from_) :
    Calls Try.prog 13 #[.int .i64 from_, .int .i64 most] w fun e w' => e = .returned (.tuple #[.agg #[.int .i64 0, .int .i64 0], .int .i64 1]) ∧ Chg NoM w w' := by
  by_cases h1 : most < 1
  · have h_ := h1
    go_enter Try.func13, Try.ntmps13
    go_wp2_with fail
    refine bodyPost_ret (v := .tuple #[.agg #[.int .i64 0, .int .i64 0], .int .i64 1]) (by simp [results, Try.results13, go_sem]) rfl ⟨rfl, ?_⟩
    repeat (first | exact Chg.refl _ | apply Chg.alloc | refine Chg.setNew ?_ (by omega))
  · by_cases h2 : 1099511627776 < most
    · have h_ := h1
      go_enter Try.func13, Try.ntmps13
      go_wp2_with fail
      refine bodyPost_ret (v := .tuple #[.agg #[.int .i64 0, .int .i64 0], .int .i64 1]) (by simp [results, Try.results13, go_sem]) rfl ⟨rfl, ?_⟩
      repeat (first | exact Chg.refl _ | apply Chg.alloc | refine Chg.setNew ?_ (by omega))
    · by_cases h3 : from_ < 0
      · have h_ := h1
        go_enter Try.func13, Try.ntmps13
        go_wp2_with fail
        refine bodyPost_ret (v := .tuple #[.agg #[.int .i64 0, .int .i64 0], .int .i64 1]) (by simp [results, Try.results13, go_sem]) rfl ⟨rfl, ?_⟩
        repeat (first | exact Chg.refl _ | apply Chg.alloc | refine Chg.setNew ?_ (by omega))
      · have h4 : most < from_ := by omega
        go_enter Try.func13, Try.ntmps13
        go_wp2_with fail
        refine bodyPost_ret (v := .tuple #[.agg #[.int .i64 0, .int .i64 0], .int .i64 1]) (by simp [results, Try.results13, go_sem]) rfl ⟨rfl, ?_⟩
        repeat (first | exact Chg.refl _ | apply Chg.alloc | refine Chg.setNew ?_ (by omega))

/-- The reference's counter in its variable. -/
def RefCtr (w : World) (cb : Nat) (n most : Int) : Prop := w.heap[cb]? = some (.cells #[.int .i64 n, .int .i64 most] 36 (0, 0))

set_option maxHeartbeats 1000000 in
theorem radd_any (n : Int) (cb : Nat) (at_ most : Int) (w : World) (h : RefCtr w cb at_ most) (h0 : 0 ≤ at_) (h1 : at_ ≤ most) (h3 : most ≤ 1099511627776) :
    Calls Try.prog 14 #[.pointer (some ⟨cb, 0, none⟩), .int .i64 n] w fun e w' => e = .returned (.tuple #[.int .i64 (addR n at_ most), .int .i64 (addE n at_ most)]) ∧ RefCtr w' cb (addN n at_ most) most ∧ Chg (BoxM cb 36) w w' ∧ w'.heap.size = w.heap.size := by
  have H := Lib.hid h
  have h_c0 := blk_cell h 0; have h_f0 := blk_free h 0; have h_c1 := blk_cell h 1; have h_f1 := blk_free h 1; have H_h := Lib.hid h; clear h
  by_cases hn : n < 0
  · have E : Hid (addE n at_ most = 1) := by unfold addE; rw [if_pos hn]; rfl
    have R : Hid (addR n at_ most = 0) := by unfold addR; rw [E.out]; rfl
    have N : Hid (addN n at_ most = at_) := by unfold addN; rw [if_pos hn]; rfl
    go_enter Try.func14, Try.ntmps14
    go_wp2
    go_ret2
    rw [E.out, R.out, N.out]
    exact ⟨rfl, H.out, Chg.refl w, rfl⟩
  · by_cases hz : n = 0
    · subst hz
      have E : Hid (addE 0 at_ most = 0) := by unfold addE; rw [if_neg (by omega), if_neg (by omega)]; rfl
      have N : Hid (addN 0 at_ most = at_) := by unfold addN; rw [if_neg (by omega), Int.min_eq_left (by omega), Int.add_zero]; rfl
      have R : Hid (addR 0 at_ most = at_) := by unfold addR; rw [E.out, if_pos rfl, N.out]; rfl
      go_enter Try.func14, Try.ntmps14
      go_wp2
      go_quiet (fail)
      go_wp2
      go_region
      all_goals go_wp2
      go_ret2
      rw [E.out, R.out, N.out]
      refine ⟨rfl, blk_set H.out 0 _, ?_, by simp⟩
      first
        | exact (Chg.refl w).setBox H.out
        | exact ((Chg.refl w).setBox H.out).drewN _
        | exact ((Chg.refl w).drewN _).setBox H.out
        | exact (((Chg.refl w).drewN _).setBox H.out).drewN _
    · have n1 : 0 < n := by omega
      by_cases he : at_ = most
      · subst he
        go_enter Try.func14, Try.ntmps14
        go_wp2
        go_quiet (fail)
        go_wp2
        have E : Hid (addE n at_ at_ = 11) := by unfold addE; rw [if_neg (by omega), if_pos ⟨n1, rfl⟩]; rfl
        have N : Hid (addN n at_ at_ = at_) := add_endN _ _
        have R : Hid (addR n at_ at_ = 0) := by unfold addR; rw [E.out]; rfl
        go_ret2
        rw [E.out, R.out, N.out]
        first
          | exact ⟨rfl, H.out, Chg.refl w, rfl⟩
          | exact ⟨rfl, H.out, (Chg.refl w).drew, rfl⟩
          | exact ⟨rfl, H.out, (Chg.refl w).drewN _, rfl⟩
      · have e0 : (at_ == most) = false := by simp; exact he
        go_enter Try.func14, Try.ntmps14
        go_wp2
        go_quiet (fail)
        go_wp2
        go_region
        all_goals go_wp2
        · have E : Hid (addE n at_ most = 0) := by unfold addE; rw [if_neg (by omega), if_neg (by omega)]; rfl
          have N : Hid (addN n at_ most = at_ + (most - at_)) := by unfold addN; rw [if_neg (by omega), Int.min_eq_right (by omega)]; rfl
          have R : Hid (addR n at_ most = at_ + (most - at_)) := by unfold addR; rw [E.out, if_pos rfl, N.out]; rfl
          go_ret2
          rw [E.out, R.out, N.out]
          refine ⟨rfl, blk_set H.out 0 _, ?_, by simp⟩
          first
            | exact (Chg.refl w).setBox H.out
            | exact ((Chg.refl w).setBox H.out).drewN _
            | exact ((Chg.refl w).drewN _).setBox H.out
            | exact (((Chg.refl w).drewN _).setBox H.out).drewN _
        · have E : Hid (addE n at_ most = 0) := by unfold addE; rw [if_neg (by omega), if_neg (by omega)]; rfl
          have N : Hid (addN n at_ most = at_ + n) := by unfold addN; rw [if_neg (by omega), Int.min_eq_left (by omega)]; rfl
          have R : Hid (addR n at_ most = at_ + n) := by unfold addR; rw [E.out, if_pos rfl, N.out]; rfl
          go_ret2
          rw [E.out, R.out, N.out]
          refine ⟨rfl, blk_set H.out 0 _, ?_, by simp⟩
          first
            | exact (Chg.refl w).setBox H.out
            | exact ((Chg.refl w).setBox H.out).drewN _
            | exact ((Chg.refl w).drewN _).setBox H.out
            | exact (((Chg.refl w).drewN _).setBox H.out).drewN _
end Go.Proofs.Ytnpahdcepbnamaa
