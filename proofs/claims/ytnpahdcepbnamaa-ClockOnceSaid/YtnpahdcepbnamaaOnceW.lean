/- The walk of ClockOnce. -/
import Derived.Test.YtnpahdcepbnamaaClockW
namespace Go.Proofs.Ytnpahdcepbnamaa
set_option linter.unusedVariables false
set_option linter.unusedSimpArgs false
open Go.RowKit

set_option maxHeartbeats 4000000 in
theorem once_walk (from_ more calls : Int) (w : World) (h1 : -9223372036854775808 ≤ from_) (h2 : from_ ≤ 9223372036854775807) (h3 : -9223372036854775808 ≤ more) (h4 : more ≤ 9223372036854775807) (h5 : -9223372036854775808 ≤ calls) (h6 : calls ≤ 9223372036854775807) :
    Calls Try.prog 3 #[.int .i64 from_, .int .i64 more, .int .i64 calls] w fun e w' => e = .returned (.bool true) ∧ Below w.heap.size w w' := by
  have hb := aroundI_bd from_ 10 (by omega)
  have A0 := Lib.hid (around_any from_ 10 w h1 h2 (by omega) (by omega))
  obtain ⟨a, ha⟩ : ∃ x, x = aroundI from_ 10 := ⟨_, rfl⟩
  rw [← ha] at hb A0
  clear ha
  obtain ⟨a1, a2⟩ := hb
  have hb := aroundI_bd more 10 (by omega)
  have A1 := Lib.hid (around_any more 10 w h3 h4 (by omega) (by omega))
  obtain ⟨d, hd⟩ : ∃ x, x = aroundI more 10 := ⟨_, rfl⟩
  rw [← hd] at hb A1
  clear hd
  obtain ⟨d1, d2⟩ := hb
  have hb := aroundI_bd calls 21 (by omega)
  have A2 := fun w' => Lib.hid (around_any calls 21 w' h5 h6 (by omega) (by omega))
  obtain ⟨c, hc⟩ : ∃ x, x = aroundI calls 21 := ⟨_, rfl⟩
  rw [← hc] at hb A2
  clear hc
  obtain ⟨c1, c2⟩ := hb
  have A3 := Lib.hid A2
  clear A2
  go_enter Try.func3, Try.ntmps3
  go_wp2_with fail
  refine A0.out.mono ?_
  rintro e w1 ⟨rfl, rfl⟩
  go_wp2_with fail
  refine A1.out.mono ?_
  rintro e w1 ⟨rfl, rfl⟩
  have C0 : Hid (Chg NoM w w) := Chg.refl w
  by_cases hb : a + d < 1
  · have ha0 : a ≤ 0 := by omega
    go_wp2_with fail
    refine (new_yes a 1 w (by omega) (by omega) (by omega) (by omega)).mono ?_
    rintro e w1 ⟨rfl, hn1, hs1, hc1⟩
    have N1 := Lib.hid hn1
    have C1 := Lib.hid hc1
    clear hn1 hs1 hc1
    go_wp2_with fail
    go_loopw [11] (fun i wr => ∃ s : Nat, 1 ≤ s ∧ s ≤ 22 ∧ i = .int .i64 s ∧ ∃ x : Int, Hid (Chg NoM w wr) ∧ Hid (CtrAt wr w.heap.size x 1) ∧ Hid ((x + 1 = a + s ∧ a + s ≤ 1 + 1) ∨ (x = 1 ∧ 1 ≤ a + s - 1))) (fun i _ => 30 - (intOf i).toNat)
    case atStart => exact ⟨1, by omega, by omega, rfl, a, C1, N1, .inl ⟨rfl, by show _ ≤ _; omega⟩⟩
    case round =>
      obtain ⟨s, hs1, hs2, rfl, x, C, N, X⟩ := hrel
      have xx := X.out
      by_cases hlt : (s : Int) ≤ c
      · go_wp2_with fail
        refine (A3.out _).out.mono ?_
        rintro e w2 ⟨rfl, rfl⟩
        by_cases hab : a + s ≤ 1
        · have E : Hid (addE 1 x 1 = 0) := by unfold addE; rw [if_neg (by omega), if_neg (by omega)]; rfl
          have D : Hid (addN 1 x 1 = a + (s : Int)) := by unfold addN; rw [if_neg (by omega), Int.min_eq_left (by omega)]; show _ = _; omega
          have R : Hid (addR 1 x 1 = a + (s : Int)) := by unfold addR; rw [E.out, if_pos rfl, D.out]; rfl
          have NX := Lib.hid (next_any _ x 1 _ N.out (by omega) (by omega) (by omega))
          clear xx
          go_wp2_with fail
          refine NX.out.mono ?_
          rw [E.out, D.out, R.out]
          rintro e w3 ⟨rfl, hn, hc, -⟩
          have N3 := Lib.hid hn
          have C3 := Lib.hid (C.out.thenAll hc (BoxM.new (Nat.le_refl _)))
          clear hn hc
          have i2 : ¬ 1 < a + (s : Int) := by omega
          go_wp2_with fail
          exact ⟨⟨s + 1, by omega, by omega, by go_num, a + (s : Int), C3, N3, .inl ⟨by omega, by omega⟩⟩, by simp [intOf]; omega⟩
        · obtain rfl : x = 1 := by omega
          have E : Hid (addE 1 (1) 1 = 11) := by unfold addE; rw [if_neg (by omega), if_pos ⟨by omega, rfl⟩]; rfl
          have D : Hid (addN 1 (1) 1 = 1) := add_endN _ _
          have R : Hid (addR 1 (1) 1 = 0) := by unfold addR; rw [E.out]; rfl
          clear xx
          go_wp2_with fail
          refine (next_any _ (1) 1 _ N.out (by omega) (by omega) (by omega)).mono ?_
          rw [E.out, D.out, R.out]
          rintro e w3 ⟨rfl, hn, hc, -⟩
          have N3 := Lib.hid hn
          have C3 := Lib.hid (C.out.thenAll hc (BoxM.new (Nat.le_refl _)))
          clear hn hc
          have i2 : 1 < a + (s : Int) := by omega
          go_wp2_with fail
          refine (at_any _ _ _ w3 N3.out).mono ?_
          rintro e w4 ⟨rfl, rfl⟩
          go_wp2_with fail
          exact ⟨⟨s + 1, by omega, by omega, by go_num, 1, C3, N3, .inr ⟨rfl, by omega⟩⟩, by simp [intOf]; omega⟩
      · go_wp2_with fail
        refine (A3.out _).out.mono ?_
        rintro e w2 ⟨rfl, rfl⟩
        go_wp2_with fail
        refine (lives_true _).mono ?_
        rintro e w8 ⟨rfl, hc8⟩
        go_wp2_with fail
        go_ret
        exact ⟨rfl, below_of_chg (C.out.trans hc8)⟩
  · have hb2 : 1 ≤ a + d := by omega
    go_wp2_with fail
    refine (new_yes a (a + d) w (by omega) (by omega) (by omega) (by omega)).mono ?_
    rintro e w1 ⟨rfl, hn1, hs1, hc1⟩
    have N1 := Lib.hid hn1
    have C1 := Lib.hid hc1
    clear hn1 hs1 hc1
    go_wp2_with fail
    go_loopw [11] (fun i wr => ∃ s : Nat, 1 ≤ s ∧ s ≤ 22 ∧ i = .int .i64 s ∧ ∃ x : Int, Hid (Chg NoM w wr) ∧ Hid (CtrAt wr w.heap.size x (a + d)) ∧ Hid ((x + 1 = a + s ∧ a + s ≤ (a + d) + 1) ∨ (x = (a + d) ∧ (a + d) ≤ a + s - 1))) (fun i _ => 30 - (intOf i).toNat)
    case atStart => exact ⟨1, by omega, by omega, rfl, a, C1, N1, .inl ⟨rfl, by show _ ≤ _; omega⟩⟩
    case round =>
      obtain ⟨s, hs1, hs2, rfl, x, C, N, X⟩ := hrel
      have xx := X.out
      by_cases hlt : (s : Int) ≤ c
      · go_wp2_with fail
        refine (A3.out _).out.mono ?_
        rintro e w2 ⟨rfl, rfl⟩
        by_cases hab : a + s ≤ (a + d)
        · have E : Hid (addE 1 x (a + d) = 0) := by unfold addE; rw [if_neg (by omega), if_neg (by omega)]; rfl
          have D : Hid (addN 1 x (a + d) = a + (s : Int)) := by unfold addN; rw [if_neg (by omega), Int.min_eq_left (by omega)]; show _ = _; omega
          have R : Hid (addR 1 x (a + d) = a + (s : Int)) := by unfold addR; rw [E.out, if_pos rfl, D.out]; rfl
          have NX := Lib.hid (next_any _ x (a + d) _ N.out (by omega) (by omega) (by omega))
          clear xx
          go_wp2_with fail
          refine NX.out.mono ?_
          rw [E.out, D.out, R.out]
          rintro e w3 ⟨rfl, hn, hc, -⟩
          have N3 := Lib.hid hn
          have C3 := Lib.hid (C.out.thenAll hc (BoxM.new (Nat.le_refl _)))
          clear hn hc
          have i2 : ¬ (a + d) < a + (s : Int) := by omega
          go_wp2_with fail
          exact ⟨⟨s + 1, by omega, by omega, by go_num, a + (s : Int), C3, N3, .inl ⟨by omega, by omega⟩⟩, by simp [intOf]; omega⟩
        · obtain rfl : x = (a + d) := by omega
          have E : Hid (addE 1 ((a + d)) (a + d) = 11) := by unfold addE; rw [if_neg (by omega), if_pos ⟨by omega, rfl⟩]; rfl
          have D : Hid (addN 1 ((a + d)) (a + d) = (a + d)) := add_endN _ _
          have R : Hid (addR 1 ((a + d)) (a + d) = 0) := by unfold addR; rw [E.out]; rfl
          clear xx
          go_wp2_with fail
          refine (next_any _ ((a + d)) (a + d) _ N.out (by omega) (by omega) (by omega)).mono ?_
          rw [E.out, D.out, R.out]
          rintro e w3 ⟨rfl, hn, hc, -⟩
          have N3 := Lib.hid hn
          have C3 := Lib.hid (C.out.thenAll hc (BoxM.new (Nat.le_refl _)))
          clear hn hc
          have i2 : (a + d) < a + (s : Int) := by omega
          go_wp2_with fail
          refine (at_any _ _ _ w3 N3.out).mono ?_
          rintro e w4 ⟨rfl, rfl⟩
          go_wp2_with fail
          exact ⟨⟨s + 1, by omega, by omega, by go_num, (a + d), C3, N3, .inr ⟨rfl, by omega⟩⟩, by simp [intOf]; omega⟩
      · go_wp2_with fail
        refine (A3.out _).out.mono ?_
        rintro e w2 ⟨rfl, rfl⟩
        go_wp2_with fail
        refine (lives_true _).mono ?_
        rintro e w8 ⟨rfl, hc8⟩
        go_wp2_with fail
        go_ret
        exact ⟨rfl, below_of_chg (C.out.trans hc8)⟩
end Go.Proofs.Ytnpahdcepbnamaa
