/- The walks of SeenLasts and SeenNews. -/
import Derived.Test.YtbgiljhppnafoaaSeenL
namespace Go.Proofs.Ytbgiljhppnafoaa
set_option linter.unusedVariables false
set_option linter.unusedSimpArgs false
open Go.RowKit

def lastsL (n j : Nat) : List Int := ((-1 : Int) :: (List.range j).map Int.ofNat).drop (j + 1 - n)
theorem lastsL_le (n j : Nat) : (lastsL n j).length ≤ j + 1 := by unfold lastsL; simp
theorem lastsL_step (n j : Nat) : noted n (lastsL n j) j = lastsL n (j + 1) := by
  unfold noted
  have hl : (lastsL n j).length = j + 1 - (j + 1 - n) := by unfold lastsL; simp
  rw [hl]
  unfold lastsL
  have e : ((-1 : Int) :: (List.range j).map Int.ofNat).drop (j + 1 - n) ++ [(j : Int)] = ((-1 : Int) :: (List.range (j + 1)).map Int.ofNat).drop (j + 1 - n) := by
    rw [List.range_succ, List.map_append, ← List.cons_append, List.drop_append_of_le_length (by simp)]
    rfl
  rw [e, List.drop_drop]
  congr 1
  omega
theorem lastsL_no (n j : Nat) : (j : Int) ∉ lastsL n j := by
  intro h
  have := List.mem_of_mem_drop h
  simp only [List.mem_cons, List.mem_map, List.mem_range] at this
  rcases this with h | ⟨a, ha, h⟩
  · omega
  · have : (a : Int) = j := h
    omega
theorem lastsL_yes (n j : Nat) (hn : 1 ≤ n) : (j : Int) ∈ lastsL n (j + 1) := by
  rw [← lastsL_step]
  unfold noted
  rw [List.drop_append_of_le_length (by omega)]
  simp
theorem lastsL_first (n k : Nat) (h : k < n) : (-1 : Int) ∈ lastsL n k := by
  unfold lastsL
  rw [show k + 1 - n = 0 by omega]
  simp
theorem lastsL_gone (n k : Nat) (h : n ≤ k) : (-1 : Int) ∉ lastsL n k := by
  unfold lastsL
  rw [show k + 1 - n = (k - n) + 1 by omega, List.drop_succ_cons]
  intro h
  have := List.mem_of_mem_drop h
  simp only [List.mem_map, List.mem_range] at this
  obtain ⟨a, ha, h⟩ := this
  have : (a : Int) = -1 := h
  omega

set_option maxHeartbeats 1000000 in
theorem news_walk (n : Int) (w : World) (h1 : -9223372036854775808 ≤ n) (h2 : n ≤ 9223372036854775807) :
    Calls Try.prog 5 #[.int .i64 n] w fun e w' => e = .returned (.bool true) ∧ Below w.heap.size w w' := by
  have hb := aroundI_bd n 1003 (by omega)
  obtain ⟨x1, hx1⟩ : ∃ x, x = aroundI n 1003 := ⟨_, rfl⟩
  have HX := Lib.hid hx1
  rw [← hx1] at hb
  have A0 := Lib.hid (around_any n 1003 w h1 h2 (by omega) (by omega))
  rw [← hx1] at A0
  clear hx1
  go_enter Try.func5, Try.ntmps5
  go_wp2_with fail
  refine A0.out.mono ?_
  rintro e w' ⟨rfl, rfl⟩
  go_wp2_with fail
  go_loopw [4] (fun i wr => ∃ k : Nat, k ≤ 2 ∧ i = .int .i64 k ∧ Hid (Chg NoM w wr) ∧ Hid (wr.heap[w.heap.size]? = some (.cells #[.int .i64 n, .int .i64 x1] 3 (0, 0)))) (fun i _ => 2 - (intOf i).toNat)
  case atStart => exact ⟨0, by omega, rfl, (Chg.refl w).alloc _, blk_new w _⟩
  case round =>
    obtain ⟨k, hk, rfl, C, B⟩ := hrel
    by_cases hlt : k < 2
    · have hk0 : wr.cell? ⟨w.heap.size, k, none⟩ = some (.int .i64 (if k = 0 then n else x1)) := by
        have : k = 0 ∨ k = 1 := by omega
        rcases this with rfl | rfl
        · exact blk_cell B.out 0
        · exact blk_cell B.out 1
      obtain ⟨x, hx⟩ : ∃ x, x = (if k = 0 then n else x1) := ⟨_, rfl⟩
      rw [← hx] at hk0
      clear hx
      go_wp2_with fail
      by_cases hin : 1 ≤ x ∧ x ≤ 1000
      · obtain ⟨hin1, hin2⟩ := hin
        obtain ⟨y, rfl⟩ : ∃ y : Nat, x = y := ⟨x.toNat, by omega⟩
        refine (new_yes_s y _ (by omega) (by omega)).mono ?_
        rintro e w1 ⟨rfl, hn1, hs1, hc1⟩
        have C1 : Hid (Chg NoM w w1) := C.out.trans hc1
        have B1 : Hid (w1.heap[w.heap.size]? = some (.cells #[.int .i64 n, .int .i64 x1] 3 (0, 0))) := hc1.blkNo B.out
        have k1 := hc1.cellNo hk0
        clear hn1 hs1 hc1
        go_wp2
        exact ⟨⟨k + 1, by omega, by go_num, C1, B1⟩, by simp [intOf]; omega⟩
      · refine (new_no_s x _ (by omega)).mono ?_
        rintro e w1 ⟨rfl, rfl⟩
        by_cases hl : 1 ≤ x
        · have hr : ¬ x ≤ 1000 := by omega
          go_wp2
          exact ⟨⟨k + 1, by omega, by go_num, C, B⟩, by simp [intOf]; omega⟩
        · go_wp2
          exact ⟨⟨k + 1, by omega, by go_num, C, B⟩, by simp [intOf]; omega⟩
    · go_wp2_with (go_at_call 12; refine (lives_true _).mono ?_; rintro e w1 ⟨rfl, hc1⟩)
      go_ret
      exact ⟨rfl, below_of_chg (C.out.trans hc1)⟩

set_option maxHeartbeats 2000000 in
theorem lasts_walk (most others : Int) (w : World) (h1 : -9223372036854775808 ≤ most) (h2 : most ≤ 9223372036854775807) (h3 : -9223372036854775808 ≤ others) (h4 : others ≤ 9223372036854775807) :
    Calls Try.prog 3 #[.int .i64 most, .int .i64 others] w fun e w' => e = .returned (.bool true) ∧ Below w.heap.size w w' := by
  have hk := Lib.hid (key_s (s := ⟨#[97]⟩) (by decide))
  have hb := aroundI_bd most 9 (by omega)
  have hb2 := aroundI_bd others 13 (by omega)
  have A0 := Lib.hid (around_any most 9 w h1 h2 (by omega) (by omega))
  have A1 := Lib.hid (around_any others 13 w h3 h4 (by omega) (by omega))
  obtain ⟨a, ha⟩ : ∃ a : Nat, aroundI most 9 = a := ⟨(aroundI most 9).toNat, by omega⟩
  obtain ⟨b, hbb⟩ : ∃ b : Nat, aroundI others 13 = b := ⟨(aroundI others 13).toNat, by omega⟩
  rw [ha] at hb A0
  rw [hbb] at hb2 A1
  clear ha hbb
  obtain ⟨-, a2⟩ := hb
  obtain ⟨-, b2⟩ := hb2
  go_enter Try.func3, Try.ntmps3
  go_wp2_with fail
  refine A0.out.mono ?_
  rintro e w1 ⟨rfl, rfl⟩
  go_wp2_with fail
  refine A1.out.mono ?_
  rintro e w1 ⟨rfl, rfl⟩
  go_wp2_with fail
  obtain ⟨n, hn⟩ : ∃ n : Nat, 1 + (a : Int) = n := ⟨1 + a, by omega⟩
  rw [hn]
  have n1 : 1 ≤ n := by omega
  have n2 : n ≤ 9 := by omega
  clear hn
  refine (St.new_s w w n (by omega) (by omega) (Nat.le_refl _)).mono ?_
  rintro e w1 ⟨sb, rfl, hsb, hs1, hc1⟩
  have S1 := Lib.hid hs1
  have C1 := Lib.hid hc1
  clear hs1 hc1
  go_wp2_with fail
  refine (S1.out.note_yes_s C1.out.size hk.out (by simp) (by simp) (by omega)).mono ?_
  rintro e w2 ⟨rfl, hs2, hc2⟩
  have S2 := Lib.hid hs2
  have C2 := Lib.hid (C1.out.int hc2)
  clear hs2 hc2
  go_wp2_with fail
  go_loopw [9] (fun i wr => ∃ k : Nat, k ≤ b ∧ i = .int .i64 k ∧ ∃ m, Hid (Chg NoM w wr) ∧ Hid (St 53 9 w.heap.size wr sb n m) ∧ Hid (m (.string ⟨#[97]⟩) = lastsL n k)) (fun i _ => b - (intOf i).toNat)
  case atStart =>
    refine ⟨0, by omega, rfl, _, C2, S2, ?_⟩
    show _ = _
    rw [mset_same]
    unfold noted lastsL
    simp
  case round =>
    obtain ⟨k, hkb, rfl, m, C, S, HM⟩ := hrel
    by_cases hlt : k < b
    · go_wp2_with fail
      refine (S.out.note_yes_s C.out.size hk.out (by rw [HM.out]; exact lastsL_no n k) (by rw [HM.out]; have := lastsL_le n k; omega) (by omega)).mono ?_
      rintro e w3 ⟨rfl, hs3, hc3⟩
      have S3 := Lib.hid hs3
      have C3 := Lib.hid (C.out.int hc3)
      clear hs3 hc3
      go_wp2_with fail
      refine (S3.out.note_no_s hk.out (by rw [mset_same, HM.out, lastsL_step]; exact lastsL_yes n k n1)).mono ?_
      rintro e w4 ⟨rfl, hc4⟩
      have S4 := Lib.hid (S3.out.chgNo hc4)
      have C4 := Lib.hid (C3.out.trans hc4)
      clear hc4
      go_wp2_with fail
      exact ⟨⟨k + 1, by omega, by go_num, _, C4, S4, by rw [mset_same, HM.out, lastsL_step]; rfl⟩, by simp [intOf]; omega⟩
    · obtain rfl : b = k := by omega
      go_wp2_with fail
      by_cases hbn : b < n
      · have hbn' : (b : Int) < (n : Int) := by omega
        have hd1 : decide (b < n) = true := by simp; omega
        have hd2 : decide (n ≤ b) = false := by simp; omega
        refine (S.out.has_yes_s hk.out (by rw [HM.out]; exact lastsL_first n b hbn)).mono ?_
        rintro e w3 ⟨rfl, hc3⟩
        have S3 := Lib.hid (S.out.chgNo hc3)
        have C3 := Lib.hid (C.out.trans hc3)
        clear hc3
        go_wp2_with fail
        refine (S3.out.note_no_s hk.out (by rw [HM.out]; exact lastsL_first n b hbn)).mono ?_
        rintro e w4 ⟨rfl, hc4⟩
        have C4 := Lib.hid (C3.out.trans hc4)
        clear hc4
        go_wp2_with fail
        refine (lives_true _).mono ?_
        rintro e w5 ⟨rfl, hc5⟩
        go_wp2_with fail
        go_ret
        exact ⟨rfl, below_of_chg (C4.out.trans hc5)⟩
      · have hbn' : ¬ (b : Int) < (n : Int) := by omega
        have hd1 : decide (b < n) = false := by simp; omega
        have hd2 : decide (n ≤ b) = true := by simp; omega
        refine (S.out.has_no_s hk.out (by rw [HM.out]; exact lastsL_gone n b (by omega))).mono ?_
        rintro e w3 ⟨rfl, hc3⟩
        have S3 := Lib.hid (S.out.chgNo hc3)
        have C3 := Lib.hid (C.out.trans hc3)
        clear hc3
        go_wp2_with fail
        refine (S3.out.note_yes_s C3.out.size hk.out (by rw [HM.out]; exact lastsL_gone n b (by omega)) (by rw [HM.out]; have := lastsL_le n b; omega) (by omega)).mono ?_
        rintro e w4 ⟨rfl, hs4, hc4⟩
        have C4 := Lib.hid (C3.out.int hc4)
        clear hs4 hc4
        go_wp2_with fail
        refine (lives_true _).mono ?_
        rintro e w5 ⟨rfl, hc5⟩
        go_wp2_with fail
        go_ret
        exact ⟨rfl, below_of_chg (C4.out.trans hc5)⟩
end Go.Proofs.Ytbgiljhppnafoaa
