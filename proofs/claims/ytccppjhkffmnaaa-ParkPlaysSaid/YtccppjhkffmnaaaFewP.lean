/- concourseref03.Few: that some EDU comes. -/
import Derived.Test.YtccppjhkffmnaaaTakeP
import Derived.Test.YtccppjhkffmnaaaTwiceW
namespace Go.Proofs.Ytccppjhkffmnaaa
set_option linter.unusedVariables false
set_option linter.unusedSimpArgs false
open Go.RowKit

def fewS (s : ByteArray) (m : Nat) : ByteArray := if m < s.size then s.extract 0 m else s
set_option maxHeartbeats 400000 in
theorem few_any (s : ByteArray) (m : Nat) (w : World) (hs : s.size ≤ 9223372036854775807) (hm : m ≤ 1000) :
    Calls Try.prog 26 #[.string s, .int .i64 m] w fun e w' => e = .returned (.string (fewS s m)) ∧ w = w' := by
  by_cases h : m < s.size
  · have e : Hid (fewS s m = s.extract 0 m) := by unfold fewS; rw [if_pos h]; rfl
    have h' : (m : Int) < (s.size : Int) := by omega
    go_enter Try.func26, Try.ntmps26
    go_wp2
    go_ret
    exact ⟨by rw [e.out]; simp, rfl⟩
  · have e : Hid (fewS s m = s) := by unfold fewS; rw [if_neg h]; rfl
    have h' : ¬ (m : Int) < (s.size : Int) := by omega
    go_enter Try.func26, Try.ntmps26
    go_wp2
    go_ret
    exact ⟨by rw [e.out]; simp, rfl⟩
/-- The bounds of its texts. -/
def EduZ (e : Edu) : Prop := (e.room.size ≤ 9223372036854775807 ∧ e.user.size ≤ 9223372036854775807) ∧ e.event.size ≤ 9223372036854775807 ∧ e.thread.size ≤ 9223372036854775807
set_option maxHeartbeats 4000000 in
theorem few3_some (e : Edu) (w : World) (hz : EduZ e) :
    Calls Try.prog 17 #[e.agg] w fun en w' => ∃ f : Edu, en = .returned f.agg ∧ Chg NoM w w' := by
  have F1 := Lib.hid (fun W => few_any e.room 40 W hz.1.1 (by omega))
  have F2 := Lib.hid (fun W => few_any e.user 40 W hz.1.2 (by omega))
  have F3 := Lib.hid (fun W => few_any e.event 40 W hz.2.1 (by omega))
  have F4 := Lib.hid (fun W => few_any e.thread 40 W hz.2.2 (by omega))
  unfold Edu.agg
  clear hz
  go_enter Try.func17, Try.ntmps17
  go_wp2_with fail
  refine (F1.out _).mono ?_
  rintro en w1 ⟨rfl, rfl⟩
  go_wp2_with fail
  refine (F2.out _).mono ?_
  rintro en w1 ⟨rfl, rfl⟩
  go_wp2_with fail
  refine (F3.out _).mono ?_
  rintro en w1 ⟨rfl, rfl⟩
  go_wp2_with fail
  refine (F4.out _).mono ?_
  rintro en w1 ⟨rfl, rfl⟩
  go_wp2_with fail
  refine bodyPost_ret (v := Edu.agg ⟨e.kind, fewS e.room 40, fewS e.user 40, fewS e.event 40, fewS e.thread 40, e.priv, e.isOn, e.span, e.state, e.tick, e.stamp⟩) (by simp [results, Try.results17, go_sem]) rfl ⟨⟨e.kind, fewS e.room 40, fewS e.user 40, fewS e.event 40, fewS e.thread 40, e.priv, e.isOn, e.span, e.state, e.tick, e.stamp⟩, rfl, ?_⟩
  repeat (first | exact Chg.refl _ | apply Chg.alloc | refine Chg.setNew ?_ (by omega))
end Go.Proofs.Ytccppjhkffmnaaa
