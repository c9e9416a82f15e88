/- Contracts of layer 5: New, Add, Next, At, Most, Backoff. -/
import Derived.Test.YtnpahdcepbnamaaAround
namespace Go.Proofs.Ytnpahdcepbnamaa
set_option linter.unusedVariables false
set_option linter.unusedSimpArgs false
open Go.RowKit

def CtrAt (w : World) (nb : Nat) (n most : Int) : Prop := w.heap[nb]? = some (.cells #[.int .i64 n, .int .i64 most] 48 (0, 0))

set_option maxHeartbeats 400000 in
theorem new_yes (from_ most : Int) (w : World) (h0 : 0 ≤ from_) (h1 : from_ ≤ most) (h2 : 1 ≤ most) (h3 : most ≤ 1099511627776) :
    Calls Try.prog 8 #[.int .i64 from_, .int .i64 most] w fun e w' => e = .returned (.tuple #[.pointer (some ⟨w.heap.size, 0, none⟩), .int .i64 0]) ∧ CtrAt w' w.heap.size from_ most ∧ w'.heap.size = w.heap.size + 1 ∧ Chg NoM w w' := by
  have b := blk_new w (.cells #[.int .i64 0, .int .i64 most] 48)
  have hl := run_call_store (P := Try.prog) (y := from_) (k := .i64) Try.func21 (by kernel_rfl) (by kernel_rfl) (by kernel_rfl) (by kernel_rfl) (blk_cell b 0) (blk_free b 0)
  have B := Lib.hid b
  clear b
  go_enter Try.func8, Try.ntmps8
  go_wp2
  go_end0
  go_wp2
  go_ret2
  exact ⟨rfl, blk_new w _, by simp, (Chg.refl w).alloc _⟩

set_option maxHeartbeats 400000 in
theorem new_no (from_ most : Int) (w : World) (h : most < 1 ∨ 1099511627776 < most ∨ from_ < 0 ∨ most < from_) :
    Calls Try.prog 8 #[.int .i64 from_, .int .i64 most] w fun e w' => e = .returned (.tuple #[.pointer none, .int .i64 1]) ∧ w = w' := by
  by_cases h1 : most < 1
  · go_enter Try.func8, Try.ntmps8
    go_wp2
    go_ret2
    exact ⟨rfl, rfl⟩
  · by_cases h2 : 1099511627776 < most
    · go_enter Try.func8, Try.ntmps8
      go_wp2
      go_ret2
      exact ⟨rfl, rfl⟩
    · by_cases h3 : from_ < 0
      · go_enter Try.func8, Try.ntmps8
        go_wp2
        go_ret2
        exact ⟨rfl, rfl⟩
      · have h4 : most < from_ := by omega
        go_enter Try.func8, Try.ntmps8
        go_wp2
        go_ret2
        exact ⟨rfl, rfl⟩

theorem at_any (nb : Nat) (n most : Int) (w : World) (h : CtrAt w nb n most) : Calls Try.prog 10 #[.pointer (some ⟨nb, 0, none⟩)] w fun e w' => e = .returned (.int .i64 n) ∧ w = w' := by
  have hl := run_call_load (P := Try.prog) Try.func22 (by kernel_rfl) (by kernel_rfl) (by kernel_rfl) .i64 (by kernel_rfl) (blk_cell h 0)
  clear h
  go_enter Try.func10, Try.ntmps10
  go_wp2
  go_ret
  exact ⟨rfl, rfl⟩
theorem most_any (nb : Nat) (n most : Int) (w : World) (h : CtrAt w nb n most) : Calls Try.prog 15 #[.pointer (some ⟨nb, 0, none⟩)] w fun e w' => e = .returned (.int .i64 most) ∧ w = w' := by
  have k1 := blk_cell h 1
  clear h
  go_enter Try.func15, Try.ntmps15
  go_wp2
  go_ret
  exact ⟨rfl, rfl⟩

/-- What Add tells, and where the counter stands behind it. -/
def addE (n at_ most : Int) : Int := if n < 0 then 1 else if 0 < n ∧ at_ = most then 11 else 0
def addN (n at_ most : Int) : Int := if n < 0 then at_ else at_ + min n (most - at_)
def addR (n at_ most : Int) : Int := if addE n at_ most = 0 then addN n at_ most else 0
theorem CtrAt.same {w : World} {nb : Nat} {n most : Int} (h : CtrAt w nb n most) : CtrAt w nb n most ∧ Chg (BoxM nb 48) w w := ⟨h, Chg.refl w⟩

set_option maxHeartbeats 1000000 in
theorem add_any (n : Int) (nb : Nat) (at_ most : Int) (w : World) (h : CtrAt w nb at_ most) (h0 : 0 ≤ at_) (h1 : at_ ≤ most) (h3 : most ≤ 1099511627776) :
    Calls Try.prog 12 #[.pointer (some ⟨nb, 0, none⟩), .int .i64 n] w fun e w' => e = .returned (.tuple #[.int .i64 (addR n at_ most), .int .i64 (addE n at_ most)]) ∧ CtrAt w' nb (addN n at_ most) most ∧ Chg (BoxM nb 48) w w' ∧ w'.heap.size = w.heap.size := by
  have H := Lib.hid h
  have hl := run_call_load (P := Try.prog) Try.func22 (by kernel_rfl) (by kernel_rfl) (by kernel_rfl) .i64 (by kernel_rfl) (blk_cell h 0)
  have k0 := blk_cell h 0
  have k1 := blk_cell h 1
  clear h
  by_cases hn : n < 0
  · have E : Hid (addE n at_ most = 1) := by unfold addE; rw [if_pos hn]; rfl
    have R : Hid (addR n at_ most = 0) := by unfold addR; rw [E.out]; rfl
    have N : Hid (addN n at_ most = at_) := by unfold addN; rw [if_pos hn]; rfl
    go_enter Try.func12, Try.ntmps12
    go_wp2
    go_ret2
    rw [E.out, R.out, N.out]
    exact ⟨rfl, H.out, Chg.refl w, rfl⟩
  · go_enter Try.func12, Try.ntmps12
    go_wp2_with fail
    go_loopw [6] (fun i wr => wr = w) (fun i _ => 0)
    case atStart => rfl
    case round =>
      subst hrel
      have n0 : 0 ≤ n := by omega
      by_cases hz : n = 0
      · subst hz
        have E : Hid (addE 0 at_ most = 0) := by unfold addE; rw [if_neg (by omega), if_neg (by omega)]; rfl
        have N : Hid (addN 0 at_ most = at_) := by unfold addN; rw [if_neg (by omega), Int.min_eq_left (by omega), Int.add_zero]; rfl
        have R : Hid (addR 0 at_ most = at_) := by unfold addR; rw [E.out, if_pos rfl, N.out]; rfl
        by_cases hlt : at_ < most
        · have hs : (0 : Int) < most - at_ := by omega
          go_wp2
          go_ret2
          rw [E.out, R.out, N.out]
          exact ⟨rfl, H.out, Chg.refl wr, rfl⟩
        · have he : most = at_ := by omega
          have hs : ¬ (0 : Int) < most - at_ := by omega
          subst he
          go_wp2
          go_ret2
          rw [E.out, R.out, N.out]
          exact ⟨rfl, H.out, Chg.refl wr, rfl⟩
      · have n1 : 0 < n := by omega
        have n2 : (n == 0) = false := by simp; omega
        by_cases he : at_ = most
        · subst he
          have E : Hid (addE n at_ at_ = 11) := by unfold addE; rw [if_neg (by omega), if_pos ⟨n1, rfl⟩]; rfl
          have N : Hid (addN n at_ at_ = at_) := by unfold addN; rw [if_neg (by omega), Int.min_eq_right (by omega)]; show _ = _; omega
          have R : Hid (addR n at_ at_ = 0) := by unfold addR; rw [E.out]; rfl
          go_wp2
          go_ret2
          rw [E.out, R.out, N.out]
          exact ⟨rfl, H.out, Chg.refl wr, rfl⟩
        · have e0 : (at_ == most) = false := by simp; exact he
          have E : Hid (addE n at_ most = 0) := by unfold addE; rw [if_neg (by omega), if_neg (by omega)]; rfl
          have hc := fun y => run_call_cas_hit (P := Try.prog) Try.func23 (by kernel_rfl) (by kernel_rfl) (by kernel_rfl) .i64 (by kernel_rfl) (y := y) (blk_cell H.out 0) (blk_free H.out 0)
          by_cases hlt : n < most - at_
          · have N : Hid (addN n at_ most = at_ + n) := by unfold addN; rw [if_neg (by omega), Int.min_eq_left (by omega)]; rfl
            have R : Hid (addR n at_ most = at_ + n) := by unfold addR; rw [E.out, if_pos rfl, N.out]; rfl
            go_wp2
            go_ret2
            rw [E.out, R.out, N.out]
            exact ⟨rfl, blk_set H.out 0 _, (Chg.refl wr).setBox H.out, by simp⟩
          · have N : Hid (addN n at_ most = most) := by unfold addN; rw [if_neg (by omega), Int.min_eq_right (by omega)]; show _ = _; omega
            have R : Hid (addR n at_ most = most) := by unfold addR; rw [E.out, if_pos rfl, N.out]; rfl
            go_wp2
            go_ret2
            rw [E.out, R.out, N.out]
            exact ⟨rfl, blk_set H.out 0 _, (Chg.refl wr).setBox H.out, by simp⟩

set_option maxHeartbeats 400000 in
theorem next_any (nb : Nat) (at_ most : Int) (w : World) (h : CtrAt w nb at_ most) (h0 : 0 ≤ at_) (h1 : at_ ≤ most) (h3 : most ≤ 1099511627776) :
    Calls Try.prog 9 #[.pointer (some ⟨nb, 0, none⟩)] w fun e w' => e = .returned (.tuple #[.int .i64 (addR 1 at_ most), .int .i64 (addE 1 at_ most)]) ∧ CtrAt w' nb (addN 1 at_ most) most ∧ Chg (BoxM nb 48) w w' ∧ w'.heap.size = w.heap.size := by
  have A := Lib.hid (add_any 1 nb at_ most w h h0 h1 h3)
  clear h
  go_enter Try.func9, Try.ntmps9
  go_wp2_with fail
  refine A.out.mono ?_
  rintro e w1 ⟨rfl, r⟩
  go_wp2
  go_ret2
  exact ⟨rfl, r⟩

/-- How long to wait: by the definition's table. -/
def backI (t : Int) : Int := if t < 1 then 1 else if t = 1 then 2 else if t = 2 then 4 else if t = 3 then 8 else 16
theorem backI_step (k : Nat) : backI ((k + 1 : Nat) : Int) = min (2 * backI k) 16 := by
  unfold backI
  by_cases h0 : k = 0
  · subst h0; decide
  by_cases h1 : k = 1
  · subst h1; decide
  by_cases h2 : k = 2
  · subst h2; decide
  by_cases h3 : k = 3
  · subst h3; decide
  rw [if_neg (by omega), if_neg (by omega), if_neg (by omega), if_neg (by omega), if_neg (by omega), if_neg (by omega), if_neg (by omega), if_neg (by omega)]
  decide
theorem backI_bd (t : Int) : 1 ≤ backI t ∧ backI t ≤ 16 := by unfold backI; repeat (first | omega | split)

set_option maxHeartbeats 1000000 in
theorem backoff_any (n : Int) (w : World) : Calls Try.prog 17 #[.int .i64 n] w fun e w' => e = .returned (.int .i64 (backI n)) ∧ w = w' := by
  by_cases h0 : n < 0
  · have E : Hid (backI n = backI (0 : Nat)) := by show _ = _; unfold backI; rw [if_pos (by omega), if_pos (by omega)]
    go_enter Try.func17, Try.ntmps17
    go_wp2
    go_loopw [3, 7] (fun s i wr => i = .int .i64 0 ∧ s = .int .i64 1 ∧ wr = w) (fun _ i _ => 0)
    case atStart => exact ⟨rfl, rfl, rfl⟩
    case round =>
      obtain ⟨rfl, rfl, rfl⟩ := hrel
      go_wp2
      go_ret
      exact ⟨by rw [E.out]; rfl, rfl⟩
  · by_cases h9 : 9 < n
    · have E : Hid (backI n = backI (9 : Nat)) := by show _ = _; unfold backI; rw [if_neg (by omega), if_neg (by omega), if_neg (by omega), if_neg (by omega)]; decide
      go_enter Try.func17, Try.ntmps17
      go_wp2
      go_loopw [3, 7] (fun s i wr => ∃ k : Nat, k ≤ 9 ∧ i = .int .i64 k ∧ s = .int .i64 (backI k) ∧ wr = w) (fun _ i _ => 9 - (intOf i).toNat)
      case atStart => exact ⟨0, by omega, rfl, rfl, rfl⟩
      case round =>
        obtain ⟨k, hk, rfl, rfl, rfl⟩ := hrel
        by_cases hlt : k < 9
        · have B := Lib.hid (backI_step k)
          have b1 := backI_bd k
          obtain ⟨x, hx⟩ : ∃ x, x = backI k := ⟨_, rfl⟩
          rw [← hx] at b1 B ⊢
          clear hx
          by_cases hm : 2 * x ≤ 16
          · have B2 : Hid (backI ((k + 1 : Nat) : Int) = 2 * x) := by rw [B.out]; exact Int.min_eq_left hm
            go_wp2
            exact ⟨⟨k + 1, by omega, by go_num, by rw [B2.out], by trivial⟩, by simp [intOf]; omega⟩
          · have B2 : Hid (backI ((k + 1 : Nat) : Int) = 16) := by rw [B.out]; exact Int.min_eq_right (by omega)
            go_wp2
            exact ⟨⟨k + 1, by omega, by go_num, by rw [B2.out, if_pos (by omega)], by trivial⟩, by simp [intOf]; omega⟩
        · obtain rfl : k = 9 := by omega
          go_wp2
          go_ret
          exact ⟨by first | rfl | (rw [E.out]; rfl) | simp, rfl⟩
    · obtain ⟨m, rfl⟩ : ∃ m : Nat, n = m := ⟨n.toNat, by omega⟩
      have E : True := trivial
      have hm9 : (m : Int) ≤ 9 := by omega
      go_enter Try.func17, Try.ntmps17
      go_wp2
      go_loopw [3, 7] (fun s i wr => ∃ k : Nat, k ≤ m ∧ i = .int .i64 k ∧ s = .int .i64 (backI k) ∧ wr = w) (fun _ i _ => m - (intOf i).toNat)
      case atStart => exact ⟨0, by omega, rfl, rfl, rfl⟩
      case round =>
        obtain ⟨k, hk, rfl, rfl, rfl⟩ := hrel
        by_cases hlt : k < m
        · have B := Lib.hid (backI_step k)
          have b1 := backI_bd k
          obtain ⟨x, hx⟩ : ∃ x, x = backI k := ⟨_, rfl⟩
          rw [← hx] at b1 B ⊢
          clear hx
          by_cases hm : 2 * x ≤ 16
          · have B2 : Hid (backI ((k + 1 : Nat) : Int) = 2 * x) := by rw [B.out]; exact Int.min_eq_left hm
            go_wp2
            exact ⟨⟨k + 1, by omega, by go_num, by rw [B2.out], by trivial⟩, by simp [intOf]; omega⟩
          · have B2 : Hid (backI ((k + 1 : Nat) : Int) = 16) := by rw [B.out]; exact Int.min_eq_right (by omega)
            go_wp2
            exact ⟨⟨k + 1, by omega, by go_num, by rw [B2.out, if_pos (by omega)], by trivial⟩, by simp [intOf]; omega⟩
        · obtain rfl : k = m := by omega
          go_wp2
          go_ret
          exact ⟨by first | rfl | (rw [E.out]; rfl) | simp, rfl⟩

/-- A sum of the first waits. -/
def sumI : Nat → Int
  | 0 => 0
  | k + 1 => sumI k + backI k
theorem sumI_4 : sumI 4 = 15 := by decide
set_option maxHeartbeats 1000000 in
/-- Sum from nine tries on. -/
theorem sum_big (n : Int) (w : World) (h : 9 < n) (h2 : n ≤ 1099511627776) : Calls Try.prog 16 #[.int .i64 n] w fun e w' => e = .returned (.int .i64 (sumI 9 + (n - 9) * 16)) ∧ w = w' := by
  have h0 : 0 ≤ n := by omega
  go_enter Try.func16, Try.ntmps16
  go_wp2
  go_loopw [3, 9] (fun s i wr => ∃ k : Nat, k ≤ 9 ∧ i = .int .i64 k ∧ s = .int .i64 (sumI k) ∧ 0 ≤ sumI k ∧ sumI k ≤ 16 * k ∧ wr = w) (fun _ i _ => 9 - (intOf i).toNat)
  case atStart => exact ⟨0, by omega, rfl, rfl, by decide, by decide, rfl⟩
  case round =>
    obtain ⟨k, hk, rfl, rfl, s0, s1, rfl⟩ := hrel
    by_cases hlt : k < 9
    · have E : Hid (sumI (k + 1) = sumI k + backI k) := rfl
      have b1 := backI_bd k
      obtain ⟨x, hx⟩ : ∃ x, x = backI k := ⟨_, rfl⟩
      obtain ⟨s, hs⟩ : ∃ s, s = sumI k := ⟨_, rfl⟩
      have A := Lib.hid (backoff_any (k : Int) wr)
      rw [← hx] at A b1 E
      rw [← hs] at E s0 s1 ⊢
      clear hx hs
      go_wp2_with fail
      refine A.out.mono ?_
      rintro e w1 ⟨rfl, rfl⟩
      go_wp2
      exact ⟨⟨k + 1, by omega, by go_num, by rw [E.out], by rw [E.out]; omega, by rw [E.out]; omega, by trivial⟩, by simp [intOf]; omega⟩
    · obtain rfl : k = 9 := by omega
      obtain ⟨s, hs⟩ : ∃ s, s = sumI 9 := ⟨_, rfl⟩
      rw [← hs] at s0 s1 ⊢
      go_wp2
      go_ret
      exact ⟨rfl, rfl⟩

set_option maxHeartbeats 1000000 in
/-- Sum up to nine tries. -/
theorem sum_small (m : Nat) (w : World) (h : m ≤ 9) : Calls Try.prog 16 #[.int .i64 m] w fun e w' => e = .returned (.int .i64 (sumI m)) ∧ w = w' := by
  have h0 : (m : Int) ≤ 9 := by omega
  have h1 : (0 : Int) ≤ m := by omega
  have h2 : (m : Int) - 9 ≤ 0 := by omega
  go_enter Try.func16, Try.ntmps16
  go_wp2
  go_loopw [3, 9] (fun s i wr => ∃ k : Nat, k ≤ m ∧ i = .int .i64 k ∧ s = .int .i64 (sumI k) ∧ 0 ≤ sumI k ∧ sumI k ≤ 16 * k ∧ wr = w) (fun _ i _ => m - (intOf i).toNat)
  case atStart => exact ⟨0, by omega, rfl, rfl, by decide, by decide, rfl⟩
  case round =>
    obtain ⟨k, hk, rfl, rfl, s0, s1, rfl⟩ := hrel
    by_cases hlt : k < m
    · have E : Hid (sumI (k + 1) = sumI k + backI k) := rfl
      have b1 := backI_bd k
      obtain ⟨x, hx⟩ : ∃ x, x = backI k := ⟨_, rfl⟩
      obtain ⟨s, hs⟩ : ∃ s, s = sumI k := ⟨_, rfl⟩
      have A := Lib.hid (backoff_any (k : Int) wr)
      rw [← hx] at A b1 E
      rw [← hs] at E s0 s1 ⊢
      clear hx hs
      go_wp2_with fail
      refine A.out.mono ?_
      rintro e w1 ⟨rfl, rfl⟩
      go_wp2
      exact ⟨⟨k + 1, by omega, by go_num, by rw [E.out], by rw [E.out]; omega, by rw [E.out]; omega, by trivial⟩, by simp [intOf]; omega⟩
    · obtain rfl : k = m := by omega
      obtain ⟨s, hs⟩ : ∃ s, s = sumI k := ⟨_, rfl⟩
      rw [← hs] at s0 s1 ⊢
      go_wp2
      all_goals go_ret
      · exact ⟨by first | rfl | simp, rfl⟩
      · have e9 : (k : Int) - 9 = 0 := by omega
        exact ⟨by first | rfl | simp [e9], rfl⟩

theorem sum_any (n : Int) (w : World) (h4 : 4 ≤ n) (h : n ≤ 1099511627776) : Calls Try.prog 16 #[.int .i64 n] w fun e w' => e = .returned (.int .i64 (15 + 16 * (n - 4))) ∧ w = w' := by
  by_cases h9 : 9 < n
  · have e9 : sumI 9 = 95 := by decide
    have e : 15 + 16 * (n - 4) = sumI 9 + (n - 9) * 16 := by omega
    rw [e]
    exact sum_big n w h9 h
  · obtain ⟨m, rfl⟩ : ∃ m : Nat, n = m := ⟨n.toNat, by omega⟩
    have e : 15 + 16 * ((m : Int) - 4) = sumI m := by
      have : m = 4 ∨ m = 5 ∨ m = 6 ∨ m = 7 ∨ m = 8 ∨ m = 9 := by omega
      rcases this with rfl | rfl | rfl | rfl | rfl | rfl <;> decide
    rw [e]
    exact sum_small m w (by omega)

set_option maxHeartbeats 1000000 in
theorem lives_true (w : World) : Calls Try.prog 11 #[] w fun e w' => e = .returned (.bool true) ∧ Chg NoM w w' := by
  have r1 : addR 1 0 2 = 1 := by decide
  have e1 : addE 1 0 2 = 0 := by decide
  have n1 : addN 1 0 2 = 1 := by decide
  have r2 : addR 1 1 2 = 2 := by decide
  have e2 : addE 1 1 2 = 0 := by decide
  have n2 : addN 1 1 2 = 2 := by decide
  have r3 : addR 1 2 2 = 0 := by decide
  have e3 : addE 1 2 2 = 11 := by decide
  have n3 : addN 1 2 2 = 2 := by decide
  have b3 : backI 3 = 8 := by decide
  have b9 : backI 9 = 16 := by decide
  go_enter Try.func11, Try.ntmps11
  go_wp2_with fail
  refine (new_yes 0 2 w (by omega) (by omega) (by omega) (by omega)).mono ?_
  rintro e w1 ⟨rfl, hn1, hs1, hc1⟩
  have N1 := Lib.hid hn1
  have C1 := Lib.hid hc1
  clear hn1 hs1 hc1
  go_wp2_with fail
  refine (next_any _ 0 2 w1 N1.out (by omega) (by omega) (by omega)).mono ?_
  rw [r1, e1, n1]
  rintro e w2 ⟨rfl, hn2, hc2, -⟩
  have N2 := Lib.hid hn2
  have C2 := Lib.hid (C1.out.thenAll hc2 (BoxM.new (Nat.le_refl _)))
  clear hn2 hc2
  go_wp2_with fail
  refine (next_any _ 1 2 w2 N2.out (by omega) (by omega) (by omega)).mono ?_
  rw [r2, e2, n2]
  rintro e w3 ⟨rfl, hn3, hc3, -⟩
  have N3 := Lib.hid hn3
  have C3 := Lib.hid (C2.out.thenAll hc3 (BoxM.new (Nat.le_refl _)))
  clear hn3 hc3
  go_wp2_with fail
  refine (next_any _ 2 2 w3 N3.out (by omega) (by omega) (by omega)).mono ?_
  rw [r3, e3, n3]
  rintro e w4 ⟨rfl, hn4, hc4, -⟩
  have C4 := Lib.hid (C3.out.thenAll hc4 (BoxM.new (Nat.le_refl _)))
  clear hn4 hc4
  go_wp2_with fail
  refine (backoff_any 3 w4).mono ?_
  rw [b3]
  rintro e w5 ⟨rfl, rfl⟩
  go_wp2_with fail
  refine (backoff_any 9 w4).mono ?_
  rw [b9]
  rintro e w5 ⟨rfl, rfl⟩
  go_wp2_with fail
  go_ret
  exact ⟨rfl, C4.out⟩
end Go.Proofs.Ytnpahdcepbnamaa
