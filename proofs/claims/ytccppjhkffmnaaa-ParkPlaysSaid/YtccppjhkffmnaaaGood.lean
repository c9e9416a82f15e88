/- The small world's names and Waits, as far as they are needed: they return some text, some EDU. -/
import Derived.Test.YtccppjhkffmnaaaPLives
import Derived.Deep.RegionWith
namespace Go.Proofs.Ytccppjhkffmnaaa
set_option linter.unusedVariables false
set_option linter.unusedSimpArgs false
open Go.RowKit

/-- A function that returns some text and leaves what was there. -/
def SomeS (m : Nat) (w : World) (e : Ending) (w' : World) : Prop := ∃ s, e = .returned (.string s) ∧ Chg NoM w w' ∧ s.size ≤ m
def SomeStr (w : World) (e : Ending) (w' : World) : Prop := SomeS 100 w e w'

theorem server_some (n : Int) (w : World) (h1 : -9223372036854775808 ≤ n) (h2 : n ≤ 9223372036854775807) : Calls Try.prog 34 #[.int .i64 n] w (SomeS 97 w) := by
  obtain ⟨g1, g2⟩ := aroundI_bd n 3 (by omega)
  have HA := Lib.hid (fun W => around_any n 3 W h1 h2 (by omega) (by omega))
  obtain ⟨t, ht⟩ : ∃ t : Nat, aroundI n 3 = t := ⟨(aroundI n 3).toNat, by omega⟩
  rw [ht] at g2 HA
  clear ht g1
  go_enter Try.func34, Try.ntmps34
  go_wp2_with fail
  refine (HA.out _).mono ?_
  rintro e w' ⟨rfl, rfl⟩
  have hc : t = 0 ∨ t = 1 ∨ t = 2 := by omega
  rcases hc with rfl | rfl | rfl
  all_goals
    go_wp2_with fail
    go_ret
    exact ⟨_, rfl, (Chg.refl w).alloc _, by decide⟩
theorem room_some (n : Int) (w : World) (h1 : -9223372036854775808 ≤ n) (h2 : n ≤ 9223372036854775807) : Calls Try.prog 31 #[.int .i64 n] w (SomeStr w) := by
  obtain ⟨g1, g2⟩ := aroundI_bd n 2 (by omega)
  have HA := Lib.hid (fun W => around_any n 2 W h1 h2 (by omega) (by omega))
  obtain ⟨t, ht⟩ : ∃ t : Nat, aroundI n 2 = t := ⟨(aroundI n 2).toNat, by omega⟩
  rw [ht] at g2 HA
  clear ht g1
  go_enter Try.func31, Try.ntmps31
  go_wp2_with fail
  refine (HA.out _).mono ?_
  rintro e w' ⟨rfl, rfl⟩
  have hc : t = 0 ∨ t = 1 := by omega
  rcases hc with rfl | rfl
  all_goals
    go_wp2_with fail
    go_ret
    exact ⟨_, rfl, (Chg.refl w).alloc _, by decide⟩

def dig (n : Nat) : ByteArray := ⟨#[UInt8.ofNat (48 + n)]⟩
set_option maxHeartbeats 800000 in
theorem dec_small (n : Nat) (w : World) (h : n < 10) : Calls Try.prog 33 #[.int .i64 n] w fun e w' => e = .returned (.string (dig n)) ∧ Chg NoM w w' := by
  have d0 : (n : Int).tmod 10 = n := by rw [Int.tmod_eq_emod_of_nonneg (by omega)]; omega
  have d1 : ¬ ((n : Int) < 0) := by omega
  have d2 : -10 < (n : Int) := by omega
  have d3 : (n : Int) < 10 := by omega
  have hb : Bytes (w.alloc (.cells #[.int .u8 (48 + (n : Int))] 5)) (some ⟨w.heap.size, 0, none⟩) [UInt8.ofNat (48 + n)] := by
    refine bytes_blk (t := 5) (fr := (0, 0)) ?_ (by simp)
    rw [blk_new]
    congr 1
    congr 1
    simp [bvals]
    omega
  have hs : (convert 63 9 (.slice (some ⟨w.heap.size, 0, none⟩) 1 1)).run Try.prog (w.alloc (.cells #[.int .u8 (48 + (n : Int))] 5)) = .ok (.string (dig n)) (w.alloc (.cells #[.int .u8 (48 + (n : Int))] 5)) := run_string_bytes (P := Try.prog) _ 63 9 5 Try.underlying63 Try.underlying5 Try.underlying9 _ _ 1 hb
  clear hb
  go_enter Try.func33, Try.ntmps33
  go_wp2_with fail
  go_ret
  exact ⟨rfl, (Chg.refl w).alloc _⟩
theorem event_some (n : Int) (w : World) (h1 : -9223372036854775808 ≤ n) (h2 : n ≤ 9223372036854775807) : Calls Try.prog 24 #[.int .i64 n] w (SomeStr w) := by
  obtain ⟨g1, g2⟩ := aroundI_bd n 9 (by omega)
  have HA := Lib.hid (fun W => around_any n 9 W h1 h2 (by omega) (by omega))
  obtain ⟨t, ht⟩ : ∃ t : Nat, aroundI n 9 = t := ⟨(aroundI n 9).toNat, by omega⟩
  rw [ht] at g2 HA
  clear ht g1
  go_enter Try.func24, Try.ntmps24
  go_wp2_with fail
  refine (HA.out _).mono ?_
  rintro e w' ⟨rfl, rfl⟩
  go_wp2_with fail
  refine (dec_small t _ (by omega)).mono ?_
  rintro e w2 ⟨rfl, hc2⟩
  have C2 := Lib.hid hc2
  clear hc2
  go_wp2_with fail
  go_ret
  exact ⟨_, rfl, C2.out, by simp [ByteArray.size_append, dig, ByteArray.size]⟩
theorem thread_some (n : Int) (w : World) (h1 : -9223372036854775808 ≤ n) (h2 : n ≤ 9223372036854775807) : Calls Try.prog 32 #[.int .i64 n] w (SomeStr w) := by
  obtain ⟨g1, g2⟩ := aroundI_bd n 11 (by omega)
  have HA := Lib.hid (fun W => around_any n 11 W h1 h2 (by omega) (by omega))
  obtain ⟨t, ht⟩ : ∃ t : Nat, aroundI n 11 = t := ⟨(aroundI n 11).toNat, by omega⟩
  rw [ht] at g2 HA
  clear ht g1
  go_enter Try.func32, Try.ntmps32
  go_wp2_with fail
  refine (HA.out _).mono ?_
  rintro e w' ⟨rfl, rfl⟩
  have hc : t = 9 ∨ t = 10 ∨ t < 9 := by omega
  rcases hc with rfl | rfl | hc
  · go_wp2_with fail
    go_ret
    exact ⟨_, rfl, Chg.refl w, by decide⟩
  · go_wp2_with fail
    go_ret
    exact ⟨_, rfl, Chg.refl w, by decide⟩
  · go_wp2_with fail
    refine (event_some (t : Int) _ (by omega) (by omega)).mono ?_
    rintro e w2 ⟨s, rfl, hc2, hs2⟩
    have C2 := Lib.hid hc2
    clear hc2
    go_wp2_with fail
    go_ret
    exact ⟨_, rfl, C2.out, hs2⟩
set_option maxHeartbeats 2000000 in
theorem user_some (n : Int) (w : World) (h1 : -9223372036854775808 ≤ n) (h2 : n ≤ 9223372036854775807) : Calls Try.prog 30 #[.int .i64 n] w (SomeStr w) := by
  obtain ⟨g1, g2⟩ := aroundI_bd n 9 (by omega)
  have HA := Lib.hid (fun W => around_any n 9 W h1 h2 (by omega) (by omega))
  obtain ⟨t, ht⟩ : ∃ t : Nat, aroundI n 9 = t := ⟨(aroundI n 9).toNat, by omega⟩
  rw [ht] at g2 HA
  clear ht g1
  have q1 : (t : Int).tdiv 3 = ((t / 3 : Nat) : Int) := by rw [Int.tdiv_eq_ediv_of_nonneg (by omega)]; omega
  have q2 : (t : Int).tmod 3 = ((t % 3 : Nat) : Int) := by rw [Int.tmod_eq_emod_of_nonneg (by omega)]; omega
  obtain ⟨d, hd⟩ : ∃ d, d = t / 3 := ⟨_, rfl⟩
  obtain ⟨r, hr⟩ : ∃ r, r = t % 3 := ⟨_, rfl⟩
  have hd3 : d < 3 := by omega
  have hr3 : r < 3 := by omega
  rw [← hd] at q1
  rw [← hr] at q2
  clear hd hr
  go_enter Try.func30, Try.ntmps30
  go_wp2_with fail
  refine (HA.out _).mono ?_
  rintro e w' ⟨rfl, rfl⟩
  have hc : d = 0 ∨ d = 1 ∨ d = 2 := by omega
  rcases hc with rfl | rfl | rfl
  · have h0 := hd3
    go_wp2_with fail
    go_region_with (go_at_call 34; refine (server_some (r : Int) _ (by omega) (by omega)).mono ?_; rintro e w' ⟨s, rfl, hc, hs⟩; try (have y : w'.cell? ⟨w.heap.size, 0, none⟩ = some (.string ⟨#[64, 97, 58]⟩) := hc.cellNo (blk_cell (blk_new w (.cells #[.string ⟨#[64, 97, 58]⟩, .string ⟨#[64, 98, 58]⟩, .string ⟨#[64, 99, 58]⟩] 9)) 0)))
    all_goals
      go_wp2
      go_ret
      refine ⟨_, rfl, ?_, ?_⟩
      · first
          | exact (((Chg.refl w).alloc _).drew).trans (by assumption)
          | exact (((Chg.refl w).drew).alloc _).trans (by assumption)
          | exact (((Chg.refl w).drew).trans (by assumption)).alloc _
          | exact ((((Chg.refl w).drew).trans (by assumption)).alloc _).drew
          | trace_state
      · have hz : ∀ s : ByteArray, s.size ≤ 97 → ((⟨#[64, 97, 58]⟩ : ByteArray) ++ s).size ≤ 100 := fun s h => by rw [ByteArray.size_append]; have : (⟨#[64, 97, 58]⟩ : ByteArray).size = 3 := rfl; omega
        exact hz _ (by assumption)
  · have h0 := hd3
    go_wp2_with fail
    go_region_with (go_at_call 34; refine (server_some (r : Int) _ (by omega) (by omega)).mono ?_; rintro e w' ⟨s, rfl, hc, hs⟩; try (have y : w'.cell? ⟨w.heap.size, 1, none⟩ = some (.string ⟨#[64, 98, 58]⟩) := hc.cellNo (blk_cell (blk_new w (.cells #[.string ⟨#[64, 97, 58]⟩, .string ⟨#[64, 98, 58]⟩, .string ⟨#[64, 99, 58]⟩] 9)) 1)))
    all_goals
      go_wp2
      go_ret
      refine ⟨_, rfl, ?_, ?_⟩
      · first
          | exact (((Chg.refl w).alloc _).drew).trans (by assumption)
          | exact (((Chg.refl w).drew).alloc _).trans (by assumption)
          | exact (((Chg.refl w).drew).trans (by assumption)).alloc _
          | exact ((((Chg.refl w).drew).trans (by assumption)).alloc _).drew
          | trace_state
      · have hz : ∀ s : ByteArray, s.size ≤ 97 → ((⟨#[64, 98, 58]⟩ : ByteArray) ++ s).size ≤ 100 := fun s h => by rw [ByteArray.size_append]; have : (⟨#[64, 98, 58]⟩ : ByteArray).size = 3 := rfl; omega
        exact hz _ (by assumption)
  · have h0 := hd3
    go_wp2_with fail
    go_region_with (go_at_call 34; refine (server_some (r : Int) _ (by omega) (by omega)).mono ?_; rintro e w' ⟨s, rfl, hc, hs⟩; try (have y : w'.cell? ⟨w.heap.size, 2, none⟩ = some (.string ⟨#[64, 99, 58]⟩) := hc.cellNo (blk_cell (blk_new w (.cells #[.string ⟨#[64, 97, 58]⟩, .string ⟨#[64, 98, 58]⟩, .string ⟨#[64, 99, 58]⟩] 9)) 2)))
    all_goals
      go_wp2
      go_ret
      refine ⟨_, rfl, ?_, ?_⟩
      · first
          | exact (((Chg.refl w).alloc _).drew).trans (by assumption)
          | exact (((Chg.refl w).drew).alloc _).trans (by assumption)
          | exact (((Chg.refl w).drew).trans (by assumption)).alloc _
          | exact ((((Chg.refl w).drew).trans (by assumption)).alloc _).drew
          | trace_state
      · have hz : ∀ s : ByteArray, s.size ≤ 97 → ((⟨#[64, 99, 58]⟩ : ByteArray) ++ s).size ≤ 100 := fun s h => by rw [ByteArray.size_append]; have : (⟨#[64, 99, 58]⟩ : ByteArray).size = 3 := rfl; omega
        exact hz _ (by assumption)
end Go.Proofs.Ytccppjhkffmnaaa
