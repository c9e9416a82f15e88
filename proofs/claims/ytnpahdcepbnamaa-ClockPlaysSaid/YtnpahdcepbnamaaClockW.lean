/- The walks of layer 5's laws. -/
import Derived.Test.YtnpahdcepbnamaaClock
namespace Go.Proofs.Ytnpahdcepbnamaa
set_option linter.unusedVariables false
set_option linter.unusedSimpArgs false
open Go.RowKit

set_option maxHeartbeats 1000000 in
theorem long_walk (n : Int) (w : World) (h1 : -9223372036854775808 ≤ n) (h2 : n ≤ 9223372036854775807) :
    Calls Try.prog 6 #[.int .i64 n] w fun e w' => e = .returned (.bool true) ∧ Below w.heap.size w w' := by
  have hb := aroundI_bd n 1048573 (by omega)
  have A0 := Lib.hid (around_any n 1048573 w h1 h2 (by omega) (by omega))
  obtain ⟨x, hx⟩ : ∃ x, x = aroundI n 1048573 := ⟨_, rfl⟩
  rw [← hx] at hb A0
  clear hx
  obtain ⟨hb1, hb2⟩ := hb
  have B : Hid (backI (4 + x) = 16) := by show _ = _; unfold backI; rw [if_neg (by omega), if_neg (by omega), if_neg (by omega), if_neg (by omega)]
  go_enter Try.func6, Try.ntmps6
  go_wp2_with fail
  refine A0.out.mono ?_
  rintro e w1 ⟨rfl, rfl⟩
  go_wp2_with fail
  refine (sum_any (4 + x) w (by omega) (by omega)).mono ?_
  rintro e w1 ⟨rfl, rfl⟩
  go_wp2_with fail
  refine (backoff_any (4 + x) w).mono ?_
  rw [B.out]
  rintro e w1 ⟨rfl, rfl⟩
  go_wp2_with fail
  refine (lives_true w).mono ?_
  rintro e w1 ⟨rfl, hc⟩
  go_wp2_with fail
  go_ret
  exact ⟨rfl, below_of_chg hc⟩

theorem add_end (n m : Int) (h : 0 ≤ n) : addN n m m = m := by unfold addN; rw [if_neg (by omega), Int.min_eq_right (by omega)]; omega
theorem add_endN (n m : Int) : addN n m m = m := by
  by_cases h : n < 0
  · unfold addN; rw [if_pos h]
  · exact add_end n m (by omega)
set_option maxHeartbeats 4000000 in
theorem ends_walk (most n : Int) (w : World) (h1 : -9223372036854775808 ≤ most) (h2 : most ≤ 9223372036854775807) (h3 : -9223372036854775808 ≤ n) (h4 : n ≤ 9223372036854775807) :
    Calls Try.prog 4 #[.int .i64 most, .int .i64 n] w fun e w' => e = .returned (.bool true) ∧ Below w.heap.size w w' := by
  have hb := aroundI_bd most 1099511627776 (by omega)
  have A0 := Lib.hid (around_any most 1099511627776 w h1 h2 (by omega) (by omega))
  obtain ⟨x, hx⟩ : ∃ x, x = aroundI most 1099511627776 := ⟨_, rfl⟩
  rw [← hx] at hb A0
  clear hx
  obtain ⟨hb1, hb2⟩ := hb
  have hb := aroundI_bd n 9223372036854775807 (by omega)
  obtain ⟨y, hy⟩ : ∃ x, x = aroundI n 9223372036854775807 := ⟨_, rfl⟩
  rw [← hy] at hb
  have HY := Lib.hid hy
  clear hy
  obtain ⟨hy1, hy2⟩ := hb
  have F1 : Hid (addR (1 + y) (1 + x) (1 + x) = 0 ∧ addE (1 + y) (1 + x) (1 + x) = 11 ∧ addN (1 + y) (1 + x) (1 + x) = 1 + x) := by
    have e : addE (1 + y) (1 + x) (1 + x) = 11 := by unfold addE; rw [if_neg (by omega), if_pos ⟨by omega, rfl⟩]
    exact ⟨by unfold addR; rw [e]; rfl, e, add_endN _ _⟩
  have F2 : Hid (addR 0 (1 + x) (1 + x) = 1 + x ∧ addE 0 (1 + x) (1 + x) = 0 ∧ addN 0 (1 + x) (1 + x) = 1 + x) := by
    have e : addE 0 (1 + x) (1 + x) = 0 := by unfold addE; rw [if_neg (by omega), if_neg (by omega)]
    exact ⟨by unfold addR; rw [e, add_endN]; rfl, e, add_endN _ _⟩
  have e3 : addE (1 + y) 0 (1 + x) = 0 := by unfold addE; rw [if_neg (by omega), if_neg (by omega)]
  by_cases hk : 1 + x < 1 + y
  · have F3 : Hid (addR (1 + y) 0 (1 + x) = 1 + x ∧ addE (1 + y) 0 (1 + x) = 0) := ⟨by unfold addR addN; rw [e3, if_pos rfl, if_neg (by omega), Int.min_eq_right (by omega)]; omega, e3⟩
    clear e3
    by_cases n0 : n < 0
    · have F4 : Hid (addE n (1 + x) (1 + x) = 1 ∧ addN n (1 + x) (1 + x) = 1 + x) := ⟨by unfold addE; rw [if_pos n0], add_endN _ _⟩
      have n1 : (n == 0) = false := by simp; omega
      go_enter Try.func4, Try.ntmps4
      go_wp2_with fail
      refine A0.out.mono ?_
      rintro e w1 ⟨rfl, rfl⟩
      go_wp2_with fail
      refine (new_yes (1 + x) (1 + x) w (by omega) (by omega) (by omega) (by omega)).mono ?_
      rintro e w1 ⟨rfl, hn1, hs1, hc1⟩
      have N1 := Lib.hid hn1
      have C1 := Lib.hid hc1
      clear hn1 hc1
      go_wp2_with fail
      refine (new_yes 0 (1 + x) w1 (by omega) (by omega) (by omega) (by omega)).mono ?_
      rintro e w2 ⟨rfl, hn2, hs2, hc2⟩
      rw [hs1] at hn2 ⊢
      have M2 := Lib.hid hn2
      have N2 : Hid (CtrAt w2 w.heap.size (1 + x) (1 + x)) := hc2.blkNo N1.out
      have C2 := Lib.hid (C1.out.trans hc2)
      clear hn2 hc2
      clear hs1 hs2
      go_wp2_with fail
      refine (around_any n 9223372036854775807 w2 h3 h4 (by omega) (by omega)).mono ?_
      rw [← HY.out]
      rintro e w3 ⟨rfl, rfl⟩
      go_wp2_with fail
      refine (add_any (1 + y) _ (1 + x) (1 + x) w2 N2.out (by omega) (by omega) (by omega)).mono ?_
      rw [F1.out.1, F1.out.2.1, F1.out.2.2]
      rintro e w3 ⟨rfl, hn3, hc3, -⟩
      have N3 := Lib.hid hn3
      have M3 : Hid (CtrAt w3 (w.heap.size + 1) 0 (1 + x)) := hc3.block _ _ M2.out (by rintro ⟨h, -⟩; omega)
      have C3 := Lib.hid (C2.out.thenAll hc3 (BoxM.new (Nat.le_refl _)))
      clear hn3 hc3
      go_wp2_with fail
      refine (add_any 0 _ (1 + x) (1 + x) w3 N3.out (by omega) (by omega) (by omega)).mono ?_
      rw [F2.out.1, F2.out.2.1, F2.out.2.2]
      rintro e w4 ⟨rfl, hn4, hc4, -⟩
      have N4 := Lib.hid hn4
      have M4 : Hid (CtrAt w4 (w.heap.size + 1) 0 (1 + x)) := hc4.block _ _ M3.out (by rintro ⟨h, -⟩; omega)
      have C4 := Lib.hid (C3.out.thenAll hc4 (BoxM.new (Nat.le_refl _)))
      clear hn4 hc4
      go_wp2_with fail
      refine (add_any (1 + y) _ 0 (1 + x) w4 M4.out (by omega) (by omega) (by omega)).mono ?_
      rw [F3.out.1, F3.out.2]
      rintro e w5 ⟨rfl, hn5, hc5, -⟩
      have N5 : Hid (CtrAt w5 w.heap.size (1 + x) (1 + x)) := hc5.block _ _ N4.out (by rintro ⟨h, -⟩; omega)
      have C5 := Lib.hid (C4.out.thenAll hc5 (BoxM.new (by omega)))
      clear hn5 hc5
      go_wp2_with fail
      refine (add_any n _ (1 + x) (1 + x) w5 N5.out (by omega) (by omega) (by omega)).mono ?_
      rw [F4.out.1, F4.out.2]
      rintro e w6 ⟨rfl, hn6, hc6, -⟩
      have N6 := Lib.hid hn6
      have C6 := Lib.hid (C5.out.thenAll hc6 (BoxM.new (Nat.le_refl _)))
      clear hn6 hc6
      go_wp2_with fail
      refine (at_any _ _ _ w6 N6.out).mono ?_
      rintro e w7 ⟨rfl, rfl⟩
      go_wp2_with fail
      refine (lives_true w6).mono ?_
      rintro e w8 ⟨rfl, hc8⟩
      go_wp2_with fail
      go_ret
      exact ⟨rfl, below_of_chg (C6.out.trans hc8)⟩
    · by_cases n2 : n = 0
      · subst n2
        have F4 : Hid (addE 0 (1 + x) (1 + x) = 0 ∧ addN 0 (1 + x) (1 + x) = 1 + x) := ⟨by unfold addE; rw [if_neg (by omega), if_neg (by omega)], add_endN _ _⟩
        go_enter Try.func4, Try.ntmps4
        go_wp2_with fail
        refine A0.out.mono ?_
        rintro e w1 ⟨rfl, rfl⟩
        go_wp2_with fail
        refine (new_yes (1 + x) (1 + x) w (by omega) (by omega) (by omega) (by omega)).mono ?_
        rintro e w1 ⟨rfl, hn1, hs1, hc1⟩
        have N1 := Lib.hid hn1
        have C1 := Lib.hid hc1
        clear hn1 hc1
        go_wp2_with fail
        refine (new_yes 0 (1 + x) w1 (by omega) (by omega) (by omega) (by omega)).mono ?_
        rintro e w2 ⟨rfl, hn2, hs2, hc2⟩
        rw [hs1] at hn2 ⊢
        have M2 := Lib.hid hn2
        have N2 : Hid (CtrAt w2 w.heap.size (1 + x) (1 + x)) := hc2.blkNo N1.out
        have C2 := Lib.hid (C1.out.trans hc2)
        clear hn2 hc2
        clear hs1 hs2
        go_wp2_with fail
        refine (around_any 0 9223372036854775807 w2 h3 h4 (by omega) (by omega)).mono ?_
        rw [← HY.out]
        rintro e w3 ⟨rfl, rfl⟩
        go_wp2_with fail
        refine (add_any (1 + y) _ (1 + x) (1 + x) w2 N2.out (by omega) (by omega) (by omega)).mono ?_
        rw [F1.out.1, F1.out.2.1, F1.out.2.2]
        rintro e w3 ⟨rfl, hn3, hc3, -⟩
        have N3 := Lib.hid hn3
        have M3 : Hid (CtrAt w3 (w.heap.size + 1) 0 (1 + x)) := hc3.block _ _ M2.out (by rintro ⟨h, -⟩; omega)
        have C3 := Lib.hid (C2.out.thenAll hc3 (BoxM.new (Nat.le_refl _)))
        clear hn3 hc3
        go_wp2_with fail
        refine (add_any 0 _ (1 + x) (1 + x) w3 N3.out (by omega) (by omega) (by omega)).mono ?_
        rw [F2.out.1, F2.out.2.1, F2.out.2.2]
        rintro e w4 ⟨rfl, hn4, hc4, -⟩
        have N4 := Lib.hid hn4
        have M4 : Hid (CtrAt w4 (w.heap.size + 1) 0 (1 + x)) := hc4.block _ _ M3.out (by rintro ⟨h, -⟩; omega)
        have C4 := Lib.hid (C3.out.thenAll hc4 (BoxM.new (Nat.le_refl _)))
        clear hn4 hc4
        go_wp2_with fail
        refine (add_any (1 + y) _ 0 (1 + x) w4 M4.out (by omega) (by omega) (by omega)).mono ?_
        rw [F3.out.1, F3.out.2]
        rintro e w5 ⟨rfl, hn5, hc5, -⟩
        have N5 : Hid (CtrAt w5 w.heap.size (1 + x) (1 + x)) := hc5.block _ _ N4.out (by rintro ⟨h, -⟩; omega)
        have C5 := Lib.hid (C4.out.thenAll hc5 (BoxM.new (by omega)))
        clear hn5 hc5
        go_wp2_with fail
        refine (add_any 0 _ (1 + x) (1 + x) w5 N5.out (by omega) (by omega) (by omega)).mono ?_
        rw [F4.out.1, F4.out.2]
        rintro e w6 ⟨rfl, hn6, hc6, -⟩
        have N6 := Lib.hid hn6
        have C6 := Lib.hid (C5.out.thenAll hc6 (BoxM.new (Nat.le_refl _)))
        clear hn6 hc6
        go_wp2_with fail
        refine (at_any _ _ _ w6 N6.out).mono ?_
        rintro e w7 ⟨rfl, rfl⟩
        go_wp2_with fail
        refine (lives_true w6).mono ?_
        rintro e w8 ⟨rfl, hc8⟩
        go_wp2_with fail
        go_ret
        exact ⟨rfl, below_of_chg (C6.out.trans hc8)⟩
      · have n1 : (n == 0) = false := by simp; omega
        have F4 : Hid (addE n (1 + x) (1 + x) = 11 ∧ addN n (1 + x) (1 + x) = 1 + x) := ⟨by unfold addE; rw [if_neg (by omega), if_pos ⟨by omega, rfl⟩], add_endN _ _⟩
        go_enter Try.func4, Try.ntmps4
        go_wp2_with fail
        refine A0.out.mono ?_
        rintro e w1 ⟨rfl, rfl⟩
        go_wp2_with fail
        refine (new_yes (1 + x) (1 + x) w (by omega) (by omega) (by omega) (by omega)).mono ?_
        rintro e w1 ⟨rfl, hn1, hs1, hc1⟩
        have N1 := Lib.hid hn1
        have C1 := Lib.hid hc1
        clear hn1 hc1
        go_wp2_with fail
        refine (new_yes 0 (1 + x) w1 (by omega) (by omega) (by omega) (by omega)).mono ?_
        rintro e w2 ⟨rfl, hn2, hs2, hc2⟩
        rw [hs1] at hn2 ⊢
        have M2 := Lib.hid hn2
        have N2 : Hid (CtrAt w2 w.heap.size (1 + x) (1 + x)) := hc2.blkNo N1.out
        have C2 := Lib.hid (C1.out.trans hc2)
        clear hn2 hc2
        clear hs1 hs2
        go_wp2_with fail
        refine (around_any n 9223372036854775807 w2 h3 h4 (by omega) (by omega)).mono ?_
        rw [← HY.out]
        rintro e w3 ⟨rfl, rfl⟩
        go_wp2_with fail
        refine (add_any (1 + y) _ (1 + x) (1 + x) w2 N2.out (by omega) (by omega) (by omega)).mono ?_
        rw [F1.out.1, F1.out.2.1, F1.out.2.2]
        rintro e w3 ⟨rfl, hn3, hc3, -⟩
        have N3 := Lib.hid hn3
        have M3 : Hid (CtrAt w3 (w.heap.size + 1) 0 (1 + x)) := hc3.block _ _ M2.out (by rintro ⟨h, -⟩; omega)
        have C3 := Lib.hid (C2.out.thenAll hc3 (BoxM.new (Nat.le_refl _)))
        clear hn3 hc3
        go_wp2_with fail
        refine (add_any 0 _ (1 + x) (1 + x) w3 N3.out (by omega) (by omega) (by omega)).mono ?_
        rw [F2.out.1, F2.out.2.1, F2.out.2.2]
        rintro e w4 ⟨rfl, hn4, hc4, -⟩
        have N4 := Lib.hid hn4
        have M4 : Hid (CtrAt w4 (w.heap.size + 1) 0 (1 + x)) := hc4.block _ _ M3.out (by rintro ⟨h, -⟩; omega)
        have C4 := Lib.hid (C3.out.thenAll hc4 (BoxM.new (Nat.le_refl _)))
        clear hn4 hc4
        go_wp2_with fail
        refine (add_any (1 + y) _ 0 (1 + x) w4 M4.out (by omega) (by omega) (by omega)).mono ?_
        rw [F3.out.1, F3.out.2]
        rintro e w5 ⟨rfl, hn5, hc5, -⟩
        have N5 : Hid (CtrAt w5 w.heap.size (1 + x) (1 + x)) := hc5.block _ _ N4.out (by rintro ⟨h, -⟩; omega)
        have C5 := Lib.hid (C4.out.thenAll hc5 (BoxM.new (by omega)))
        clear hn5 hc5
        go_wp2_with fail
        refine (add_any n _ (1 + x) (1 + x) w5 N5.out (by omega) (by omega) (by omega)).mono ?_
        rw [F4.out.1, F4.out.2]
        rintro e w6 ⟨rfl, hn6, hc6, -⟩
        have N6 := Lib.hid hn6
        have C6 := Lib.hid (C5.out.thenAll hc6 (BoxM.new (Nat.le_refl _)))
        clear hn6 hc6
        go_wp2_with fail
        refine (at_any _ _ _ w6 N6.out).mono ?_
        rintro e w7 ⟨rfl, rfl⟩
        go_wp2_with fail
        refine (lives_true w6).mono ?_
        rintro e w8 ⟨rfl, hc8⟩
        go_wp2_with fail
        go_ret
        exact ⟨rfl, below_of_chg (C6.out.trans hc8)⟩
  · have F3 : Hid (addR (1 + y) 0 (1 + x) = 1 + y ∧ addE (1 + y) 0 (1 + x) = 0) := ⟨by unfold addR addN; rw [e3, if_pos rfl, if_neg (by omega), Int.min_eq_left (by omega)]; omega, e3⟩
    clear e3
    by_cases n0 : n < 0
    · have F4 : Hid (addE n (1 + x) (1 + x) = 1 ∧ addN n (1 + x) (1 + x) = 1 + x) := ⟨by unfold addE; rw [if_pos n0], add_endN _ _⟩
      have n1 : (n == 0) = false := by simp; omega
      go_enter Try.func4, Try.ntmps4
      go_wp2_with fail
      refine A0.out.mono ?_
      rintro e w1 ⟨rfl, rfl⟩
      go_wp2_with fail
      refine (new_yes (1 + x) (1 + x) w (by omega) (by omega) (by omega) (by omega)).mono ?_
      rintro e w1 ⟨rfl, hn1, hs1, hc1⟩
      have N1 := Lib.hid hn1
      have C1 := Lib.hid hc1
      clear hn1 hc1
      go_wp2_with fail
      refine (new_yes 0 (1 + x) w1 (by omega) (by omega) (by omega) (by omega)).mono ?_
      rintro e w2 ⟨rfl, hn2, hs2, hc2⟩
      rw [hs1] at hn2 ⊢
      have M2 := Lib.hid hn2
      have N2 : Hid (CtrAt w2 w.heap.size (1 + x) (1 + x)) := hc2.blkNo N1.out
      have C2 := Lib.hid (C1.out.trans hc2)
      clear hn2 hc2
      clear hs1 hs2
      go_wp2_with fail
      refine (around_any n 9223372036854775807 w2 h3 h4 (by omega) (by omega)).mono ?_
      rw [← HY.out]
      rintro e w3 ⟨rfl, rfl⟩
      go_wp2_with fail
      refine (add_any (1 + y) _ (1 + x) (1 + x) w2 N2.out (by omega) (by omega) (by omega)).mono ?_
      rw [F1.out.1, F1.out.2.1, F1.out.2.2]
      rintro e w3 ⟨rfl, hn3, hc3, -⟩
      have N3 := Lib.hid hn3
      have M3 : Hid (CtrAt w3 (w.heap.size + 1) 0 (1 + x)) := hc3.block _ _ M2.out (by rintro ⟨h, -⟩; omega)
      have C3 := Lib.hid (C2.out.thenAll hc3 (BoxM.new (Nat.le_refl _)))
      clear hn3 hc3
      go_wp2_with fail
      refine (add_any 0 _ (1 + x) (1 + x) w3 N3.out (by omega) (by omega) (by omega)).mono ?_
      rw [F2.out.1, F2.out.2.1, F2.out.2.2]
      rintro e w4 ⟨rfl, hn4, hc4, -⟩
      have N4 := Lib.hid hn4
      have M4 : Hid (CtrAt w4 (w.heap.size + 1) 0 (1 + x)) := hc4.block _ _ M3.out (by rintro ⟨h, -⟩; omega)
      have C4 := Lib.hid (C3.out.thenAll hc4 (BoxM.new (Nat.le_refl _)))
      clear hn4 hc4
      go_wp2_with fail
      refine (add_any (1 + y) _ 0 (1 + x) w4 M4.out (by omega) (by omega) (by omega)).mono ?_
      rw [F3.out.1, F3.out.2]
      rintro e w5 ⟨rfl, hn5, hc5, -⟩
      have N5 : Hid (CtrAt w5 w.heap.size (1 + x) (1 + x)) := hc5.block _ _ N4.out (by rintro ⟨h, -⟩; omega)
      have C5 := Lib.hid (C4.out.thenAll hc5 (BoxM.new (by omega)))
      clear hn5 hc5
      go_wp2_with fail
      refine (add_any n _ (1 + x) (1 + x) w5 N5.out (by omega) (by omega) (by omega)).mono ?_
      rw [F4.out.1, F4.out.2]
      rintro e w6 ⟨rfl, hn6, hc6, -⟩
      have N6 := Lib.hid hn6
      have C6 := Lib.hid (C5.out.thenAll hc6 (BoxM.new (Nat.le_refl _)))
      clear hn6 hc6
      go_wp2_with fail
      refine (at_any _ _ _ w6 N6.out).mono ?_
      rintro e w7 ⟨rfl, rfl⟩
      go_wp2_with fail
      refine (lives_true w6).mono ?_
      rintro e w8 ⟨rfl, hc8⟩
      go_wp2_with fail
      go_ret
      exact ⟨rfl, below_of_chg (C6.out.trans hc8)⟩
    · by_cases n2 : n = 0
      · subst n2
        have F4 : Hid (addE 0 (1 + x) (1 + x) = 0 ∧ addN 0 (1 + x) (1 + x) = 1 + x) := ⟨by unfold addE; rw [if_neg (by omega), if_neg (by omega)], add_endN _ _⟩
        go_enter Try.func4, Try.ntmps4
        go_wp2_with fail
        refine A0.out.mono ?_
        rintro e w1 ⟨rfl, rfl⟩
        go_wp2_with fail
        refine (new_yes (1 + x) (1 + x) w (by omega) (by omega) (by omega) (by omega)).mono ?_
        rintro e w1 ⟨rfl, hn1, hs1, hc1⟩
        have N1 := Lib.hid hn1
        have C1 := Lib.hid hc1
        clear hn1 hc1
        go_wp2_with fail
        refine (new_yes 0 (1 + x) w1 (by omega) (by omega) (by omega) (by omega)).mono ?_
        rintro e w2 ⟨rfl, hn2, hs2, hc2⟩
        rw [hs1] at hn2 ⊢
        have M2 := Lib.hid hn2
        have N2 : Hid (CtrAt w2 w.heap.size (1 + x) (1 + x)) := hc2.blkNo N1.out
        have C2 := Lib.hid (C1.out.trans hc2)
        clear hn2 hc2
        clear hs1 hs2
        go_wp2_with fail
        refine (around_any 0 9223372036854775807 w2 h3 h4 (by omega) (by omega)).mono ?_
        rw [← HY.out]
        rintro e w3 ⟨rfl, rfl⟩
        go_wp2_with fail
        refine (add_any (1 + y) _ (1 + x) (1 + x) w2 N2.out (by omega) (by omega) (by omega)).mono ?_
        rw [F1.out.1, F1.out.2.1, F1.out.2.2]
        rintro e w3 ⟨rfl, hn3, hc3, -⟩
        have N3 := Lib.hid hn3
        have M3 : Hid (CtrAt w3 (w.heap.size + 1) 0 (1 + x)) := hc3.block _ _ M2.out (by rintro ⟨h, -⟩; omega)
        have C3 := Lib.hid (C2.out.thenAll hc3 (BoxM.new (Nat.le_refl _)))
        clear hn3 hc3
        go_wp2_with fail
        refine (add_any 0 _ (1 + x) (1 + x) w3 N3.out (by omega) (by omega) (by omega)).mono ?_
        rw [F2.out.1, F2.out.2.1, F2.out.2.2]
        rintro e w4 ⟨rfl, hn4, hc4, -⟩
        have N4 := Lib.hid hn4
        have M4 : Hid (CtrAt w4 (w.heap.size + 1) 0 (1 + x)) := hc4.block _ _ M3.out (by rintro ⟨h, -⟩; omega)
        have C4 := Lib.hid (C3.out.thenAll hc4 (BoxM.new (Nat.le_refl _)))
        clear hn4 hc4
        go_wp2_with fail
        refine (add_any (1 + y) _ 0 (1 + x) w4 M4.out (by omega) (by omega) (by omega)).mono ?_
        rw [F3.out.1, F3.out.2]
        rintro e w5 ⟨rfl, hn5, hc5, -⟩
        have N5 : Hid (CtrAt w5 w.heap.size (1 + x) (1 + x)) := hc5.block _ _ N4.out (by rintro ⟨h, -⟩; omega)
        have C5 := Lib.hid (C4.out.thenAll hc5 (BoxM.new (by omega)))
        clear hn5 hc5
        go_wp2_with fail
        refine (add_any 0 _ (1 + x) (1 + x) w5 N5.out (by omega) (by omega) (by omega)).mono ?_
        rw [F4.out.1, F4.out.2]
        rintro e w6 ⟨rfl, hn6, hc6, -⟩
        have N6 := Lib.hid hn6
        have C6 := Lib.hid (C5.out.thenAll hc6 (BoxM.new (Nat.le_refl _)))
        clear hn6 hc6
        go_wp2_with fail
        refine (at_any _ _ _ w6 N6.out).mono ?_
        rintro e w7 ⟨rfl, rfl⟩
        go_wp2_with fail
        refine (lives_true w6).mono ?_
        rintro e w8 ⟨rfl, hc8⟩
        go_wp2_with fail
        go_ret
        exact ⟨rfl, below_of_chg (C6.out.trans hc8)⟩
      · have n1 : (n == 0) = false := by simp; omega
        have F4 : Hid (addE n (1 + x) (1 + x) = 11 ∧ addN n (1 + x) (1 + x) = 1 + x) := ⟨by unfold addE; rw [if_neg (by omega), if_pos ⟨by omega, rfl⟩], add_endN _ _⟩
        go_enter Try.func4, Try.ntmps4
        go_wp2_with fail
        refine A0.out.mono ?_
        rintro e w1 ⟨rfl, rfl⟩
        go_wp2_with fail
        refine (new_yes (1 + x) (1 + x) w (by omega) (by omega) (by omega) (by omega)).mono ?_
        rintro e w1 ⟨rfl, hn1, hs1, hc1⟩
        have N1 := Lib.hid hn1
        have C1 := Lib.hid hc1
        clear hn1 hc1
        go_wp2_with fail
        refine (new_yes 0 (1 + x) w1 (by omega) (by omega) (by omega) (by omega)).mono ?_
        rintro e w2 ⟨rfl, hn2, hs2, hc2⟩
        rw [hs1] at hn2 ⊢
        have M2 := Lib.hid hn2
        have N2 : Hid (CtrAt w2 w.heap.size (1 + x) (1 + x)) := hc2.blkNo N1.out
        have C2 := Lib.hid (C1.out.trans hc2)
        clear hn2 hc2
        clear hs1 hs2
        go_wp2_with fail
        refine (around_any n 9223372036854775807 w2 h3 h4 (by omega) (by omega)).mono ?_
        rw [← HY.out]
        rintro e w3 ⟨rfl, rfl⟩
        go_wp2_with fail
        refine (add_any (1 + y) _ (1 + x) (1 + x) w2 N2.out (by omega) (by omega) (by omega)).mono ?_
        rw [F1.out.1, F1.out.2.1, F1.out.2.2]
        rintro e w3 ⟨rfl, hn3, hc3, -⟩
        have N3 := Lib.hid hn3
        have M3 : Hid (CtrAt w3 (w.heap.size + 1) 0 (1 + x)) := hc3.block _ _ M2.out (by rintro ⟨h, -⟩; omega)
        have C3 := Lib.hid (C2.out.thenAll hc3 (BoxM.new (Nat.le_refl _)))
        clear hn3 hc3
        go_wp2_with fail
        refine (add_any 0 _ (1 + x) (1 + x) w3 N3.out (by omega) (by omega) (by omega)).mono ?_
        rw [F2.out.1, F2.out.2.1, F2.out.2.2]
        rintro e w4 ⟨rfl, hn4, hc4, -⟩
        have N4 := Lib.hid hn4
        have M4 : Hid (CtrAt w4 (w.heap.size + 1) 0 (1 + x)) := hc4.block _ _ M3.out (by rintro ⟨h, -⟩; omega)
        have C4 := Lib.hid (C3.out.thenAll hc4 (BoxM.new (Nat.le_refl _)))
        clear hn4 hc4
        go_wp2_with fail
        refine (add_any (1 + y) _ 0 (1 + x) w4 M4.out (by omega) (by omega) (by omega)).mono ?_
        rw [F3.out.1, F3.out.2]
        rintro e w5 ⟨rfl, hn5, hc5, -⟩
        have N5 : Hid (CtrAt w5 w.heap.size (1 + x) (1 + x)) := hc5.block _ _ N4.out (by rintro ⟨h, -⟩; omega)
        have C5 := Lib.hid (C4.out.thenAll hc5 (BoxM.new (by omega)))
        clear hn5 hc5
        go_wp2_with fail
        refine (add_any n _ (1 + x) (1 + x) w5 N5.out (by omega) (by omega) (by omega)).mono ?_
        rw [F4.out.1, F4.out.2]
        rintro e w6 ⟨rfl, hn6, hc6, -⟩
        have N6 := Lib.hid hn6
        have C6 := Lib.hid (C5.out.thenAll hc6 (BoxM.new (Nat.le_refl _)))
        clear hn6 hc6
        go_wp2_with fail
        refine (at_any _ _ _ w6 N6.out).mono ?_
        rintro e w7 ⟨rfl, rfl⟩
        go_wp2_with fail
        refine (lives_true w6).mono ?_
        rintro e w8 ⟨rfl, hc8⟩
        go_wp2_with fail
        go_ret
        exact ⟨rfl, below_of_chg (C6.out.trans hc8)⟩
end Go.Proofs.Ytnpahdcepbnamaa
