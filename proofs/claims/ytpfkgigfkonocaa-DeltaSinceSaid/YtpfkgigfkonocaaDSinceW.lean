/- The walk of DeltaSince. -/
import Derived.Test.YtpfkgigfkonocaaDFill
namespace Go.Proofs.Ytpfkgigfkonocaa
set_option linter.unusedVariables false
set_option linter.unusedSimpArgs false
open Go.RowKit
def bNone : ByteArray := ⟨#[110, 111, 110, 101]⟩
set_option maxHeartbeats 4000000 in
theorem since_walk (from_ : Int) (A : Option Addr) (ds : List ByteArray) (c : Nat) (n : Int) (w : World) (hf1 : -9223372036854775808 ≤ from_) (hf2 : from_ ≤ 9223372036854775807) (hds : RowsAt StrR 1 w A ds) (h1 : -9223372036854775808 ≤ n) (h2 : n ≤ 9223372036854775807) (hlen : ds.length ≤ 9223372036854775807) :
    Calls Try.prog 6 #[.int .i64 from_, .slice A ds.length c, .int .i64 n] w fun e w' => e = .returned (.bool true) ∧ Below w.heap.size w w' := by
  have HD := Lib.hid hds
  have hb := aroundI_bd from_ 1001 (by omega)
  have A0 := Lib.hid (around_any from_ 1001 w hf1 hf2 (by omega) (by omega))
  have A1 := Lib.hid (fun W => around_any n 1026 W h1 h2 (by omega) (by omega))
  obtain ⟨f, hf⟩ : ∃ x, x = aroundI from_ 1001 := ⟨_, rfl⟩
  rw [← hf] at hb A0
  obtain ⟨x1, hx1⟩ : ∃ x, x = aroundI n 1026 := ⟨_, rfl⟩
  rw [← hx1] at A1
  obtain ⟨f1, f2⟩ := hb
  clear hf hds hf1 hf2 hx1
  go_enter Try.func6, Try.ntmps6
  go_wp2_with fail
  refine A0.out.mono ?_
  rintro e w' ⟨rfl, rfl⟩
  go_wp2_with fail
  refine (fill_any f 20 A ds c w w HD.out (Chg.refl w) f1 (by omega) (by omega) (by omega) hlen).mono ?_
  rintro e w1 ⟨lb, own, v, U, cu, rfl, hD1, hsz, hol, hC1⟩
  have D1 := Lib.hid hD1
  have C1 := Lib.hid hC1
  have SZ := Lib.hid hsz
  have hol2 : (own.length : Int) ≤ 20 := by omega
  clear hD1 hC1 hsz
  go_wp2_with fail
  refine (A1.out _).mono ?_
  rintro e w' ⟨rfl, rfl⟩
  go_wp2_with fail
  go_loopw [11] (fun i wr => ∃ k : Nat, k ≤ 4 ∧ i = .int .i64 k ∧ Hid (wr.heap[w1.heap.size]? = some (.cells #[.int .i64 n, .int .i64 x1, .int .i64 (f + own.length), .int .i64 f] 3 (0, 0))) ∧ Hid (Chg NoM w1 wr)) (fun i _ => 4 - (intOf i).toNat)
  case atStart => exact ⟨0, by omega, rfl, blk_new w1 _, (Chg.refl w1).alloc _⟩
  case round =>
    obtain ⟨k, hk, rfl, BX, C⟩ := hrel
    by_cases hlt : k < 4
    · obtain ⟨x, hx⟩ : ∃ x, wr.cell? ⟨w1.heap.size, k, none⟩ = some (.int .i64 x) := by
        have h : k = 0 ∨ k = 1 ∨ k = 2 ∨ k = 3 := by omega
        rcases h with rfl | rfl | rfl | rfl
        · exact ⟨_, blk_cell BX.out 0⟩
        · exact ⟨_, blk_cell BX.out 1⟩
        · exact ⟨_, blk_cell BX.out 2⟩
        · exact ⟨_, blk_cell BX.out 3⟩
      have i1 : (0 : Int) ≤ (k : Int) := by omega
      have i2 : (k : Int) < 4 := by omega
      have HX := Lib.hid hx
      have D := Lib.hid (D1.out.chgNo C.out)
      have sl := since_len f own x
      clear hx
      go_wp2_with fail
      refine wp_region_sig 12 (fun w' => Chg NoM wr w') [.L [0, 1, 2, 3, 4, 6, 7, 8, 9, 10, 11], .K 5, .N [12, 13, 14]] rfl (fun _ _ d _ _ h => by cases d <;> exact h) (fun _ h => h) (by kernel_rfl) ((Chg.refl _).drew) ?_
      apply sigL (Nat.le_refl _)
      · intro w' hS
        have y0 := hS.cellNo HX.out
        (simp only [wpPl, pickOps, List.filterMap_cons, List.filterMap_nil, List.getElem?_toArray, List.getElem?_cons_zero, List.getElem?_cons_succ]; iterate 11 (go_wp2; refine ⟨trivial, ?_⟩)); rfl
      apply sigK
      simp only [pickOps, List.filterMap_cons, List.filterMap_nil, List.getElem?_toArray, List.getElem?_cons_zero, List.getElem?_cons_succ]
      go_wp2_with fail
      refine (since_any x wr.drew (D.out.log.chgNo (Chg.refl wr).drew) (fun s hs => by have := SZ.out s hs; omega) (by omega)).mono ?_
      rintro e w5 ⟨g5, rfl, hg5, hb5, hc5⟩
      have C5 := Lib.hid (Chg.ofDrew hc5)
      have S5 := Lib.hid (SO.blk hb5)
      clear hg5 hb5 hc5
      go_wp2_with fail
      refine ⟨C5.out, ?_⟩
      apply sigN
      simp only [pickOps, List.filterMap_cons, List.filterMap_nil, List.getElem?_toArray, List.getElem?_cons_zero, List.getElem?_cons_succ]
      go_wp2_with fail
      refine (rsince_any U cu f x own w5 (SO.ofRow (D.out.chgNo C5.out).row) (by omega) (by omega) (by omega)).mono ?_
      rintro e w6 ⟨A6, c6, rfl, hr6, hc6⟩
      have C6 := Lib.hid (C5.out.trans hc6)
      have S6 := Lib.hid (S5.out.chgNo hc6)
      have T6 := Lib.hid (SO.ofRow hr6)
      clear hr6 hc6
      go_wp2_with fail
      refine (same_texts _ _ _ _ (sinceL f own x) w6 S6.out T6.out (by omega)).mono ?_
      rintro e w7 ⟨rfl, hc7⟩
      have C7 := Lib.hid (C6.out.trans hc7)
      clear hc7
      go_wp2_with fail
      apply sigEnd
      go_wp2_with fail
      exact ⟨⟨k + 1, by omega, by go_num, C7.out.blkNo BX.out, C.out.trans C7.out⟩, by simp [intOf]; omega⟩
    · obtain ⟨wz, hwz⟩ : ∃ wz : World, wz = wr := ⟨_, rfl⟩
      have DZ : Hid (Duo wz w.heap.size lb f own (f + 20) w.heap.size (w.heap.size + 1) v (.slice U own.length cu) own) := by rw [hwz]; exact D1.out.chgNo C.out
      have CZ : Hid (Chg NoM w wz) := by rw [hwz]; exact C1.out.trans C.out
      rw [← hwz]
      clear hwz C BX
      go_wp2_with fail
      go_loopw [12] (fun i wr => ∃ j : Nat, j ≤ own.length ∧ i = .int .i64 j ∧ Hid (Chg NoM wz wr)) (fun i _ => own.length - (intOf i).toNat)
      case atStart => exact ⟨0, by omega, rfl, Chg.refl wz⟩
      case round =>
        obtain ⟨j, hj, rfl, E⟩ := hrel
        have DE := Lib.hid (DZ.out.chgNo E.out)
        by_cases hjl : j < own.length
        · obtain ⟨s, hs⟩ : ∃ s, own[j]? = some s := ⟨_, List.getElem?_eq_getElem hjl⟩
          have hmem := List.mem_of_getElem? hs
          have hsz := SZ.out s hmem
          obtain ⟨g, off, rfl, e0⟩ := (SO.ofRow DE.out.row).at j s hs
          have PY := Lib.hid (pos_yes s wr DE.out.log (by omega) hmem)
          have RP := Lib.hid (rpos_any (some ⟨g, off, none⟩) cu f own s wr (SO.ofRow DE.out.row) (by omega) (by omega) (by omega))
          have i1 : (0 : Int) ≤ (j : Int) := by omega
          have i2 : (j : Int) < (own.length : Int) := by omega
          obtain ⟨q, hq⟩ : ∃ q, q = posOf f own s := ⟨_, rfl⟩
          rw [← hq] at PY RP
          clear hs hmem hsz hq
          go_wp2_with fail
          refine PY.out.mono ?_
          rintro e w' ⟨rfl, rfl⟩
          go_wp2_with fail
          refine RP.out.mono ?_
          rintro e w' ⟨rfl, rfl⟩
          go_wp2_with fail
          exact ⟨⟨j + 1, by omega, by go_num, E⟩, by simp [intOf]; omega⟩
        · have PN := Lib.hid (pos_no bNone wr DE.out.log (by decide) (fun h => by have := SZ.out _ h; revert this; decide))
          have AT := Lib.hid (at_any DE.out.log)
          have RM := Lib.hid (room_any DE.out.log (by omega) (by omega) (by omega))
          go_wp2_with fail
          refine PN.out.mono ?_
          rintro e w' ⟨rfl, rfl⟩
          go_wp2_with fail
          refine AT.out.mono ?_
          rintro e w' ⟨rfl, rfl⟩
          go_wp2_with fail
          refine RM.out.mono ?_
          rintro e w9 ⟨rfl, hc9⟩
          have C9 := Lib.hid ((CZ.out.trans E.out).trans hc9)
          rw [show f + 20 - (f + (own.length : Int)) = 20 - (own.length : Int) by omega]
          clear hc9
          go_wp2_with fail
          refine (lives_true _).mono ?_
          rintro e w10 ⟨rfl, hc10⟩
          have C10 := Lib.hid (C9.out.trans hc10)
          clear hc10
          go_wp2_with fail
          go_ret
          exact ⟨rfl, below_of_chg C10.out⟩
end Go.Proofs.Ytpfkgigfkonocaa
