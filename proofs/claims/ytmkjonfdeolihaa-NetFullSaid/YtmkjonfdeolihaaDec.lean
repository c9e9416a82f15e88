/- The reference's Decimal, of numbers 0 to 99; b2i. -/
import Derived.Test.YtmkjonfdeolihaaLives
namespace Go.Proofs.Ytmkjonfdeolihaa
set_option linter.unusedVariables false
set_option linter.unusedSimpArgs false
open Go.RowKit

def dig (n : Nat) : ByteArray := ⟨#[UInt8.ofNat (48 + n)]⟩
def decS (n : Nat) : ByteArray := if n < 10 then dig n else dig (n / 10) ++ dig (n % 10)

set_option maxHeartbeats 800000 in
theorem dec_small (n : Nat) (w : World) (h : n < 10) : Calls Try.prog 24 #[.int .i64 n] w fun e w' => e = .returned (.string (dig n)) ∧ Chg NoM w w' := by
  have d0 : (n : Int).tmod 10 = n := by rw [Int.tmod_eq_emod_of_nonneg (by omega)]; omega
  have d1 : ¬ ((n : Int) < 0) := by omega
  have d2 : -10 < (n : Int) := by omega
  have d3 : (n : Int) < 10 := by omega
  have hb : Bytes (w.alloc (.cells #[.int .u8 (48 + (n : Int))] 5)) (some ⟨w.heap.size, 0, none⟩) [UInt8.ofNat (48 + n)] := by
    refine bytes_blk (t := 5) (fr := (0, 0)) ?_ (by simp)
    rw [blk_new]
    congr 1
    congr 1
    simp [bvals]
    omega
  have hs : (convert 34 9 (.slice (some ⟨w.heap.size, 0, none⟩) 1 1)).run Try.prog (w.alloc (.cells #[.int .u8 (48 + (n : Int))] 5)) = .ok (.string (dig n)) (w.alloc (.cells #[.int .u8 (48 + (n : Int))] 5)) := run_string_bytes (P := Try.prog) _ 34 9 5 Try.underlying34 Try.underlying5 Try.underlying9 _ _ 1 hb
  clear hb
  go_enter Try.func24, Try.ntmps24
  go_wp2_with fail
  go_ret
  exact ⟨rfl, (Chg.refl w).alloc _⟩

set_option maxHeartbeats 800000 in
theorem dec_any (n : Nat) (w : World) (h : n < 100) : Calls Try.prog 24 #[.int .i64 n] w fun e w' => e = .returned (.string (decS n)) ∧ Chg NoM w w' := by
  by_cases hs : n < 10
  · unfold decS
    rw [if_pos hs]
    exact dec_small n w hs
  · have E : Hid (decS n = dig (n / 10) ++ dig (n % 10)) := by show _ = _; unfold decS; rw [if_neg hs]
    obtain ⟨m, hm⟩ : ∃ m, m = n % 10 := ⟨_, rfl⟩
    obtain ⟨q, hq⟩ : ∃ q, q = n / 10 := ⟨_, rfl⟩
    have d0 : (n : Int).tmod 10 = m := by rw [Int.tmod_eq_emod_of_nonneg (by omega)]; omega
    have d4 : (n : Int).tdiv 10 = q := by rw [Int.tdiv_eq_ediv_of_nonneg (by omega)]; omega
    have d1 : ¬ ((m : Int) < 0) := by omega
    have d2 : -10 < (n : Int) := by omega
    have d3 : ¬ (n : Int) < 10 := by omega
    have hm9 : m < 10 := by omega
    have hq9 : q < 10 := by omega
    rw [← hm, ← hq] at E
    clear hm hq
    have hb : Bytes (w.alloc (.cells #[.int .u8 (48 + (m : Int))] 5)) (some ⟨w.heap.size, 0, none⟩) [UInt8.ofNat (48 + m)] := by
      refine bytes_blk (t := 5) (fr := (0, 0)) ?_ (by simp)
      rw [blk_new]
      congr 1
      congr 1
      simp [bvals]
      omega
    have hs : (convert 34 9 (.slice (some ⟨w.heap.size, 0, none⟩) 1 1)).run Try.prog (w.alloc (.cells #[.int .u8 (48 + (m : Int))] 5)) = .ok (.string (dig m)) (w.alloc (.cells #[.int .u8 (48 + (m : Int))] 5)) := run_string_bytes (P := Try.prog) _ 34 9 5 Try.underlying34 Try.underlying5 Try.underlying9 _ _ 1 hb
    clear hb
    go_enter Try.func24, Try.ntmps24
    go_wp2_with fail
    refine (dec_small q _ hq9).mono ?_
    rintro e w1 ⟨rfl, hc⟩
    go_wp2_with fail
    go_ret
    exact ⟨by rw [E.out]; rfl, ((Chg.refl w).alloc _).trans hc⟩

theorem b2i_any (b : Bool) (w : World) : Calls Try.prog 25 #[.bool b] w fun e w' => e = .returned (.int .i64 (if b then 1 else 0)) ∧ w = w' := by
  cases b
  · go_enter Try.func25, Try.ntmps25
    go_wp2
    go_ret
    exact ⟨rfl, rfl⟩
  · go_enter Try.func25, Try.ntmps25
    go_wp2
    go_ret
    exact ⟨rfl, rfl⟩
end Go.Proofs.Ytmkjonfdeolihaa
