/- The reference's Around (any seat), and a frame's end. -/
import Derived.Test.YtccppjhkffmnaaaBase
namespace Go.Proofs.Ytccppjhkffmnaaa
set_option linter.unusedVariables false
set_option linter.unusedSimpArgs false
open Go.RowKit

def aroundI (n m : Int) : Int := if n < 0 then (-(n + 1)) % m else n % m
theorem aroundI_bd (n m : Int) (hm : 1 ≤ m) : 0 ≤ aroundI n m ∧ aroundI n m < m := by
  unfold aroundI
  split
  · exact ⟨Int.emod_nonneg _ (by omega), Int.emod_lt_of_pos _ (by omega)⟩
  · exact ⟨Int.emod_nonneg _ (by omega), Int.emod_lt_of_pos _ (by omega)⟩

set_option maxHeartbeats 400000 in
theorem around_any (n m : Int) (w : World) (h1 : -9223372036854775808 ≤ n) (h2 : n ≤ 9223372036854775807) (hm : 1 ≤ m) (hm2 : m ≤ 9223372036854775807) :
    Calls Try.prog 8 #[.int .i64 n, .int .i64 m] w fun e w' => e = .returned (.int .i64 (aroundI n m)) ∧ w = w' := by
  by_cases h : n < 0
  · have e : Hid (aroundI n m = (-(n + 1)).tmod m) := by
      unfold aroundI
      rw [if_pos h, Int.tmod_eq_emod_of_nonneg (by omega)]
      rfl
    go_enter Try.func8, Try.ntmps8
    go_wp2
    go_ret
    exact ⟨by rw [e.out]; simp, rfl⟩
  · have e : Hid (aroundI n m = n % m) := by
      unfold aroundI
      rw [if_neg h]
      rfl
    go_enter Try.func8, Try.ntmps8
    go_wp2
    go_ret
    exact ⟨by rw [e.out]; simp, rfl⟩

theorem below_of_chg {w w' : World} (h : Chg NoM w w') : Below w.heap.size w w' := h.below (Nat.le_refl _) (fun _ _ h => h.elim)
end Go.Proofs.Ytccppjhkffmnaaa
