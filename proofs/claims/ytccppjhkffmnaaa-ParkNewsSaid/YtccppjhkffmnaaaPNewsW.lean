/- The walk of ParkNews. -/
import Derived.Test.YtccppjhkffmnaaaPLives
namespace Go.Proofs.Ytccppjhkffmnaaa
set_option linter.unusedVariables false
set_option linter.unusedSimpArgs false
open Go.RowKit

set_option maxHeartbeats 1000000 in
theorem news_walk (n : Int) (w : World) (h1 : -9223372036854775808 ≤ n) (h2 : n ≤ 9223372036854775807) :
    Calls Try.prog 3 #[.int .i64 n] w fun e w' => e = .returned (.bool true) ∧ Below w.heap.size w w' := by
  have hb := aroundI_bd n 1003 (by omega)
  obtain ⟨x1, hx1⟩ : ∃ x, x = aroundI n 1003 := ⟨_, rfl⟩
  have HX := Lib.hid hx1
  rw [← hx1] at hb
  have A0 := Lib.hid (around_any n 1003 w h1 h2 (by omega) (by omega))
  rw [← hx1] at A0
  clear hx1
  go_enter Try.func3, Try.ntmps3
  go_wp2_with fail
  refine A0.out.mono ?_
  rintro e w' ⟨rfl, rfl⟩
  go_wp2_with fail
  go_loopw [4] (fun i wr => ∃ k : Nat, k ≤ 2 ∧ i = .int .i64 k ∧ Hid (Chg NoM w wr) ∧ Hid (wr.heap[w.heap.size]? = some (.cells #[.int .i64 n, .int .i64 x1] 3 (0, 0)))) (fun i _ => 2 - (intOf i).toNat)
  case atStart => exact ⟨0, by omega, rfl, (Chg.refl w).alloc _, blk_new w _⟩
  case round =>
    obtain ⟨k, hk, rfl, C, B⟩ := hrel
    by_cases hlt : k < 2
    · have hk0 : wr.cell? ⟨w.heap.size, k, none⟩ = some (.int .i64 (if k = 0 then n else x1)) := by
        have : k = 0 ∨ k = 1 := by omega
        rcases this with rfl | rfl
        · exact blk_cell B.out 0
        · exact blk_cell B.out 1
      obtain ⟨x, hx⟩ : ∃ x, x = (if k = 0 then n else x1) := ⟨_, rfl⟩
      rw [← hx] at hk0
      clear hx
      go_wp2_with fail
      by_cases hin : 1 ≤ x ∧ x ≤ 1000
      · obtain ⟨hin1, hin2⟩ := hin
        refine (new_yes x _ (by omega) (by omega)).mono ?_
        rintro e w1 ⟨rfl, hn1, hs1, hc1⟩
        have C1 : Hid (Chg NoM w w1) := C.out.trans hc1
        have B1 : Hid (w1.heap[w.heap.size]? = some (.cells #[.int .i64 n, .int .i64 x1] 3 (0, 0))) := hc1.blkNo B.out
        have k1 := hc1.cellNo hk0
        clear hn1 hs1 hc1
        go_wp2
        exact ⟨⟨k + 1, by omega, by go_num, C1, B1⟩, by simp [intOf]; omega⟩
      · refine (new_no x _ (by omega)).mono ?_
        rintro e w1 ⟨rfl, rfl⟩
        by_cases hl : 1 ≤ x
        · have hr : ¬ x ≤ 1000 := by omega
          go_wp2
          exact ⟨⟨k + 1, by omega, by go_num, C, B⟩, by simp [intOf]; omega⟩
        · go_wp2
          exact ⟨⟨k + 1, by omega, by go_num, C, B⟩, by simp [intOf]; omega⟩
    · go_wp2_with (go_at_call 10; refine (lives_true _).mono ?_; rintro e w1 ⟨rfl, hc1⟩)
      go_ret
      exact ⟨rfl, below_of_chg (C.out.trans hc1)⟩

end Go.Proofs.Ytccppjhkffmnaaa
