/- The walk of ClockPlays. -/
import Derived.Test.YtnpahdcepbnamaaPlays05
import Derived.Test.YtnpahdcepbnamaaSig2
namespace Go.Proofs.Ytnpahdcepbnamaa
set_option linter.unusedVariables false
set_option linter.unusedSimpArgs false
open Go.RowKit

theorem addN_bd (z n y : Int) (h0 : 0 ≤ n) (h1 : n ≤ y) : 0 ≤ addN z n y ∧ addN z n y ≤ y := by
  unfold addN
  split
  · exact ⟨h0, h1⟩
  · rcases Int.le_total z (y - n) with h | h
    · rw [Int.min_eq_left h]; omega
    · rw [Int.min_eq_right h]; omega

set_option maxRecDepth 20000 in
set_option maxHeartbeats 4000000 in
theorem plays_walk (from_ most : Int) (A : Option Addr) (zs : List Int) (c : Nat) (w : World) (h1 : -9223372036854775808 ≤ from_) (h2 : from_ ≤ 9223372036854775807) (h3 : -9223372036854775808 ≤ most) (h4 : most ≤ 9223372036854775807) (hzs : IntsAt w A zs) :
    Calls Try.prog 5 #[.int .i64 from_, .int .i64 most, .slice A zs.length c] w fun e w' => e = .returned (.bool true) ∧ Below w.heap.size w w' := by
  have HZ := Lib.hid hzs
  have zl := hzs.2.1
  clear hzs
  have hb := aroundI_bd from_ 31 (by omega)
  have A0 := Lib.hid (around_any from_ 31 w h1 h2 (by omega) (by omega))
  obtain ⟨x1, hx1⟩ : ∃ x, x = aroundI from_ 31 := ⟨_, rfl⟩
  rw [← hx1] at hb A0
  clear hx1
  obtain ⟨a1, a2⟩ := hb
  have hb := aroundI_bd most 30 (by omega)
  have A1 := Lib.hid (fun w' => around_any most 30 w' h3 h4 (by omega) (by omega))
  obtain ⟨y1, hy1⟩ : ∃ x, x = aroundI most 30 := ⟨_, rfl⟩
  rw [← hy1] at hb A1
  clear hy1
  obtain ⟨b1, b2⟩ := hb
  go_enter Try.func5, Try.ntmps5
  go_wp2_with fail
  refine A0.out.mono ?_
  rintro e w1 ⟨rfl, rfl⟩
  go_wp2_with fail
  refine (A1.out _).mono ?_
  rintro e w1 ⟨rfl, rfl⟩
  go_wp2_with fail
  go_loopw [9] (fun i wr => ∃ k : Nat, k ≤ 2 ∧ i = .int .i64 k ∧ Hid (Chg NoM w wr) ∧ Hid (wr.heap[w.heap.size]? = some (.cells #[.int .i64 from_, .int .i64 x1] 3 (0, 0))) ∧
    Hid (wr.heap[w.heap.size + 1]? = some (.cells #[.int .i64 most, .int .i64 (1 + y1)] 3 (0, 0)))) (fun i _ => 2 - (intOf i).toNat)
  case atStart => exact ⟨0, by omega, rfl, ((Chg.refl w).alloc _).alloc _, blk_alloc (blk_new w _) _, Lib.hid (by simpa using blk_new (w.alloc _) _)⟩
  case round =>
    obtain ⟨k, hk, rfl, C, B1, B2⟩ := hrel
    by_cases hlt : k < 2
    · obtain ⟨x, y, hk0, hk1⟩ : ∃ x y, wr.cell? ⟨w.heap.size, k, none⟩ = some (.int .i64 x) ∧ wr.cell? ⟨w.heap.size + 1, k, none⟩ = some (.int .i64 y) := by
        have : k = 0 ∨ k = 1 := by omega
        rcases this with rfl | rfl
        · exact ⟨_, _, blk_cell B1.out 0, blk_cell B2.out 0⟩
        · exact ⟨_, _, blk_cell B1.out 1, blk_cell B2.out 1⟩
      have K0 := Lib.hid hk0
      have K1 := Lib.hid hk1
      clear hk0 hk1
      have i1 : (0 : Int) ≤ (k : Int) := by omega
      have i2 : (k : Int) < 2 := by omega
      go_wp2_with fail
      refine wp_region_sig 8 (fun w' => Chg NoM wr w') [.L [0, 1, 2, 3, 4, 5, 6, 7], .N [8], .P [9, 10, 11, 12, 13]] rfl (fun _ _ d _ _ h => by cases d <;> exact h) (fun _ h => h) (by kernel_rfl) ((Chg.refl _).drew) ?_
      apply sigL (Nat.le_refl _)
      · intro w' hS
        have y0 := hS.cellNo K0.out
        have y1 := hS.cellNo K1.out
        (simp only [wpPl, pickOps, List.filterMap_cons, List.filterMap_nil, List.getElem?_toArray, List.getElem?_cons_zero, List.getElem?_cons_succ]; iterate 8 (go_wp2; refine ⟨trivial, ?_⟩)); rfl
      apply sigN
      simp only [pickOps, List.filterMap_cons, List.filterMap_nil, List.getElem?_toArray, List.getElem?_cons_zero, List.getElem?_cons_succ]
      have C1 : Hid (Chg NoM w wr.drew) := C.out.drew
      have B1 : Hid (wr.drew.heap[w.heap.size]? = some (.cells #[.int .i64 from_, .int .i64 x1] 3 (0, 0))) := B1.out
      have B2 : Hid (wr.drew.heap[w.heap.size + 1]? = some (.cells #[.int .i64 most, .int .i64 (1 + y1)] 3 (0, 0))) := B2.out
      have K0 : Hid (wr.drew.cell? ⟨w.heap.size, k, none⟩ = some (.int .i64 x)) := K0.out
      have K1 : Hid (wr.drew.cell? ⟨w.heap.size + 1, k, none⟩ = some (.int .i64 y)) := K1.out
      clear C
      generalize wr.drew = W at C1 B1 B2 K0 K1 ⊢
      skip
      go_wp2_with fail
      by_cases hv : 0 ≤ x ∧ x ≤ y ∧ 1 ≤ y ∧ y ≤ 1099511627776
      · obtain ⟨v1, v2, v3, v4⟩ := hv
        refine (new_yes x y _ v1 v2 v3 v4).mono ?_
        rintro e w2 ⟨rfl, hn2, hs2, hc2⟩
        have N2 := Lib.hid hn2
        have C2 : Hid (Chg NoM w w2) := C1.out.trans hc2
        have B1 : Hid (w2.heap[w.heap.size]? = some (.cells #[.int .i64 from_, .int .i64 x1] 3 (0, 0))) := hc2.blkNo B1.out
        have B2 : Hid (w2.heap[w.heap.size + 1]? = some (.cells #[.int .i64 most, .int .i64 (1 + y1)] 3 (0, 0))) := hc2.blkNo B2.out
        have K0 : Hid (w2.cell? ⟨w.heap.size, k, none⟩ = some (.int .i64 x)) := hc2.cellNo K0.out
        have K1 : Hid (w2.cell? ⟨w.heap.size + 1, k, none⟩ = some (.int .i64 y)) := hc2.cellNo K1.out
        have hnb : w.heap.size ≤ W.heap.size := C1.out.size
        obtain ⟨nb, hnb'⟩ : ∃ nb, nb = W.heap.size := ⟨_, rfl⟩
        rw [← hnb'] at N2 hnb ⊢
        clear hn2 hc2 hs2 C1 hnb'
        go_wp2_with fail
        apply sigP (by simp)
        · intro w'
          (simp only [wpPl, pickOps, List.filterMap_cons, List.filterMap_nil, List.getElem?_toArray, List.getElem?_cons_zero, List.getElem?_cons_succ]; iterate 5 (go_wp2; refine ⟨trivial, ?_⟩)); rfl
        apply sigEnd
        go_wp2_with fail
        refine wp_region_fork (A := ?A) 8 (fun w' => Chg NoM w2 w') [0, 1, 2, 3, 4, 5, 6, 7] 8 12 [.P [9, 10, 11], .N [12, 13, 14]] [.N [8], .P [9, 10, 11], .N [13, 14]] rfl (fun _ _ d _ _ h => by cases d <;> exact h) (fun _ h => h) (by kernel_rfl) ((Chg.refl _).drew) ?hpl ?h1 ?h2
        case hpl =>
          intro w' hS
          have y0 := hS.cellNo K0.out
          have y1 := hS.cellNo K1.out
          (simp only [wpPl, pickOps, List.filterMap_cons, List.filterMap_nil, List.getElem?_toArray, List.getElem?_cons_zero, List.getElem?_cons_succ]; iterate 8 (go_wp2; refine ⟨trivial, ?_⟩)); rfl
        case h1 =>
          simp only [pickOps, List.filterMap_cons, List.filterMap_nil, List.getElem?_toArray, List.getElem?_cons_zero, List.getElem?_cons_succ]
          go_wp2_with fail
          refine (rnew_yes x y _ v1 v2 v3 v4).mono ?_
          rintro e w3 ⟨rfl, hc3⟩
          have S3 := Lib.hid ((Chg.refl w2).drew.trans hc3)
          clear hc3
          go_wp2_with fail
          refine ⟨S3.out, ?_⟩
          apply sigP (by simp)
          · intro w'
            (simp only [wpPl, pickOps, List.filterMap_cons, List.filterMap_nil, List.getElem?_toArray, List.getElem?_cons_zero, List.getElem?_cons_succ]; iterate 3 (go_wp2; refine ⟨trivial, ?_⟩)); rfl
          apply sigN
          simp only [pickOps, List.filterMap_cons, List.filterMap_nil, List.getElem?_toArray, List.getElem?_cons_zero, List.getElem?_cons_succ]
          go_wp2_with fail
          apply sigEnd
          have S5 := Lib.hid (S3.out.alloc (.cells #[.int .i64 x, .int .i64 y] 36))
          have R5 := Lib.hid (show RefCtr (w3.alloc (.cells #[.int .i64 x, .int .i64 y] 36)) w3.heap.size x y from blk_new w3 _)
          have hcb : w2.heap.size ≤ w3.heap.size := S3.out.size
          obtain ⟨cb, hcb'⟩ : ∃ cb, cb = w3.heap.size := ⟨_, rfl⟩
          rw [← hcb'] at R5 hcb ⊢
          clear hcb'
          generalize w3.alloc (.cells #[.int .i64 x, .int .i64 y] 36) = V at S5 R5 ⊢
          have N5 : Hid (CtrAt V nb x y) := S5.out.blkNo N2.out
          have B1 : Hid (V.heap[w.heap.size]? = some (.cells #[.int .i64 from_, .int .i64 x1] 3 (0, 0))) := S5.out.blkNo B1.out
          have B2 : Hid (V.heap[w.heap.size + 1]? = some (.cells #[.int .i64 most, .int .i64 (1 + y1)] 3 (0, 0))) := S5.out.blkNo B2.out
          have C5 : Hid (Chg NoM w V) := C2.out.trans S5.out
          have hcbw : w.heap.size ≤ cb := Nat.le_trans C2.out.size hcb
          clear S5 N2 C2 hcb
          go_wp2_with fail
          go_loopw [14] (fun i wr => ∃ j : Nat, j ≤ zs.length ∧ j ≤ 12 ∧ i = .int .i64 j ∧ ∃ n : Int, 0 ≤ n ∧ n ≤ y ∧ Hid (Chg NoM w wr) ∧ Hid (CtrAt wr nb n y) ∧ Hid (RefCtr wr cb n y) ∧ Hid (wr.heap[w.heap.size]? = some (.cells #[.int .i64 from_, .int .i64 x1] 3 (0, 0))) ∧
            Hid (wr.heap[w.heap.size + 1]? = some (.cells #[.int .i64 most, .int .i64 (1 + y1)] 3 (0, 0)))) (fun i _ => 12 - (intOf i).toNat)
          case atStart => exact ⟨0, by omega, by omega, rfl, x, v1, v2, C5, N5, R5, B1, B2⟩
          case round =>
            obtain ⟨j, hj, hj12, rfl, n, n0, n1, C, N, R, B1, B2⟩ := hrel
            by_cases hlj : j < zs.length ∧ j < 12
            · obtain ⟨q1, q2⟩ := hlj
              obtain ⟨b, off, hA, hz⟩ := HZ.out.2.2 (by omega)
              cases hA
              have hz1 := hz j _ (List.getElem?_eq_getElem q1)
              have hz2 := HZ.out.1 _ (List.getElem_mem q1)
              obtain ⟨z, hzz⟩ : ∃ z, z = zs[j] := ⟨_, rfl⟩
              rw [← hzz] at hz1 hz2
              clear hzz hz
              have Z0 := Lib.hid hz1
              have z0 : wr.cell? ⟨b, off + j, none⟩ = some (.int .i64 z) := C.out.cellNo hz1
              obtain ⟨z2, z3⟩ := hz2
              clear hz1
              have j1 : (0 : Int) ≤ (j : Int) := by omega
              have j2 : (j : Int) < (zs.length : Int) := by omega
              go_wp2_with fail
              refine (add_any z nb n y wr N.out n0 n1 v4).mono ?_
              rintro e w3 ⟨rfl, hn3, hc3, -⟩
              have N3 := Lib.hid hn3
              have C3 : Hid (Chg NoM w w3) := C.out.thenAll hc3 (BoxM.new hnb)
              have R3 : Hid (RefCtr w3 cb n y) := hc3.block _ _ R.out (BoxM.ne (by decide))
              have B13 : Hid (w3.heap[w.heap.size]? = some (.cells #[.int .i64 from_, .int .i64 x1] 3 (0, 0))) := hc3.block _ _ B1.out (BoxM.ne (by decide))
              have B23 : Hid (w3.heap[w.heap.size + 1]? = some (.cells #[.int .i64 most, .int .i64 (1 + y1)] 3 (0, 0))) := hc3.block _ _ B2.out (BoxM.ne (by decide))
              clear hn3 hc3 z0
              have z0 : w3.cell? ⟨b, off + j, none⟩ = some (.int .i64 z) := C3.out.cellNo Z0.out
              go_wp2_with fail
              refine (radd_any z cb n y w3 R3.out n0 n1 v4).mono ?_
              rintro e w4 ⟨rfl, hn4, hc4, -⟩
              have R4 := Lib.hid hn4
              have C4 : Hid (Chg NoM w w4) := C3.out.thenAll hc4 (BoxM.new hcbw)
              have N4 : Hid (CtrAt w4 nb (addN z n y) y) := hc4.block _ _ N3.out (BoxM.ne (by decide))
              have B14 : Hid (w4.heap[w.heap.size]? = some (.cells #[.int .i64 from_, .int .i64 x1] 3 (0, 0))) := hc4.block _ _ B13.out (BoxM.ne (by decide))
              have B24 : Hid (w4.heap[w.heap.size + 1]? = some (.cells #[.int .i64 most, .int .i64 (1 + y1)] 3 (0, 0))) := hc4.block _ _ B23.out (BoxM.ne (by decide))
              clear hn4 hc4 z0
              have z0 : w4.cell? ⟨b, off + j, none⟩ = some (.int .i64 z) := C4.out.cellNo Z0.out
              have hN := addN_bd z n y n0 n1
              obtain ⟨n4, hn4⟩ : ∃ n4, n4 = addN z n y := ⟨_, rfl⟩
              have HN4 := Lib.hid hn4
              rw [← hn4] at hN N4 R4
              obtain ⟨r4, hr4⟩ : ∃ r4, r4 = addR z n y := ⟨_, rfl⟩
              obtain ⟨e4, he4⟩ : ∃ e4, e4 = addE z n y := ⟨_, rfl⟩
              rw [← hr4, ← he4]
              clear hn4 hr4 he4
              obtain ⟨n40, n41⟩ := hN
              clear N3 C3 R3 B13 B23 N C R B1 B2
              by_cases hm1 : z = -1
              · subst hm1
                go_wp2_with fail
                refine (next_any nb n4 y w4 N4.out n40 n41 v4).mono ?_
                rintro e w5 ⟨rfl, hn5, hc5, -⟩
                have N5 := Lib.hid hn5
                have C5 : Hid (Chg NoM w w5) := C4.out.thenAll hc5 (BoxM.new hnb)
                have R5 : Hid (RefCtr w5 cb n4 y) := hc5.block _ _ R4.out (BoxM.ne (by decide))
                have B15 : Hid (w5.heap[w.heap.size]? = some (.cells #[.int .i64 from_, .int .i64 x1] 3 (0, 0))) := hc5.block _ _ B14.out (BoxM.ne (by decide))
                have B25 : Hid (w5.heap[w.heap.size + 1]? = some (.cells #[.int .i64 most, .int .i64 (1 + y1)] 3 (0, 0))) := hc5.block _ _ B24.out (BoxM.ne (by decide))
                clear hn5 hc5 z0
                go_wp2_with fail
                refine (radd_any 1 cb n4 y w5 R5.out n40 n41 v4).mono ?_
                rintro e w6 ⟨rfl, hn6, hc6, -⟩
                have R6 := Lib.hid hn6
                have C6 : Hid (Chg NoM w w6) := C5.out.thenAll hc6 (BoxM.new hcbw)
                have N6 : Hid (CtrAt w6 nb (addN 1 n4 y) y) := hc6.block _ _ N5.out (BoxM.ne (by decide))
                have B16 : Hid (w6.heap[w.heap.size]? = some (.cells #[.int .i64 from_, .int .i64 x1] 3 (0, 0))) := hc6.block _ _ B15.out (BoxM.ne (by decide))
                have B26 : Hid (w6.heap[w.heap.size + 1]? = some (.cells #[.int .i64 most, .int .i64 (1 + y1)] 3 (0, 0))) := hc6.block _ _ B25.out (BoxM.ne (by decide))
                clear hn6 hc6
                have hN := addN_bd 1 n4 y n40 n41
                obtain ⟨n6, hn6⟩ : ∃ n6, n6 = addN 1 n4 y := ⟨_, rfl⟩
                rw [← hn6] at hN N6 R6
                obtain ⟨r6, hr6⟩ : ∃ r4, r4 = addR 1 n4 y := ⟨_, rfl⟩
                obtain ⟨e6, he6⟩ : ∃ e4, e4 = addE 1 n4 y := ⟨_, rfl⟩
                rw [← hr6, ← he6]
                clear hn6 hr6 he6
                obtain ⟨n60, n61⟩ := hN
                clear N5 C5 R5 B15 B25 N4 C4 R4 B14 B24
                go_wp2_with fail
                refine wp_region_sig 20 (fun w' => Chg NoM w6 w') [.P [0, 1, 2, 3, 4, 5, 6, 7, 8, 9, 11], .L [12], .K 10, .P [13, 14, 15, 16, 18], .L [19], .K 17, .N [20, 21]] rfl (fun _ _ d _ _ h => by cases d <;> exact h) (fun _ h => h) (by kernel_rfl) ((Chg.refl _).drew) ?_
                apply sigP (Nat.le_refl _)
                · intro w'
                  (simp only [wpPl, pickOps, List.filterMap_cons, List.filterMap_nil, List.getElem?_toArray, List.getElem?_cons_zero, List.getElem?_cons_succ]; iterate 11 (go_wp2; refine ⟨trivial, ?_⟩)); rfl
                apply sigL (by simp)
                · intro w' hS
                  have y0 := blk_cell (hS.blkNo R6.out) 0
                  (simp only [wpPl, pickOps, List.filterMap_cons, List.filterMap_nil, List.getElem?_toArray, List.getElem?_cons_zero, List.getElem?_cons_succ]; iterate 1 (go_wp2; refine ⟨trivial, ?_⟩)); rfl
                apply sigK
                simp only [pickOps, List.filterMap_cons, List.filterMap_nil, List.getElem?_toArray, List.getElem?_cons_zero, List.getElem?_cons_succ]
                go_wp2_with fail
                refine (at_any nb n6 y _ (show CtrAt w6.drew nb n6 y from N6.out)).mono ?_
                rintro e w' ⟨rfl, rfl⟩
                go_wp2_with fail
                refine ⟨(Chg.refl _).drew, ?_⟩
                apply sigP (by simp)
                · intro w'
                  (simp only [wpPl, pickOps, List.filterMap_cons, List.filterMap_nil, List.getElem?_toArray, List.getElem?_cons_zero, List.getElem?_cons_succ]; iterate 5 (go_wp2; refine ⟨trivial, ?_⟩)); rfl
                apply sigL (by simp)
                · intro w' hS
                  have y0 := blk_cell (hS.blkNo R6.out) 1
                  (simp only [wpPl, pickOps, List.filterMap_cons, List.filterMap_nil, List.getElem?_toArray, List.getElem?_cons_zero, List.getElem?_cons_succ]; iterate 1 (go_wp2; refine ⟨trivial, ?_⟩)); rfl
                apply sigK
                simp only [pickOps, List.filterMap_cons, List.filterMap_nil, List.getElem?_toArray, List.getElem?_cons_zero, List.getElem?_cons_succ]
                go_wp2_with fail
                refine (most_any nb n6 y _ (show CtrAt w6.drew nb n6 y from N6.out)).mono ?_
                rintro e w' ⟨rfl, rfl⟩
                go_wp2_with fail
                refine ⟨(Chg.refl _).drew, ?_⟩
                apply sigN
                simp only [pickOps, List.filterMap_cons, List.filterMap_nil, List.getElem?_toArray, List.getElem?_cons_zero, List.getElem?_cons_succ]
                go_wp2_with fail
                apply sigEnd
                go_wp2_with fail
                exact ⟨⟨j + 1, by omega, by omega, by go_num, n6, n60, n61, C6.out.drew, N6.out, R6.out, B16.out, B26.out⟩, by simp [intOf]; omega⟩
              · have hm2 : (z == -1) = false := by simp; exact hm1
                go_wp2_with fail
                refine wp_region_sig 20 (fun w' => Chg NoM w4 w') [.P [0, 1, 2, 3, 4, 5, 6, 7, 8, 9, 11], .L [12], .K 10, .P [13, 14, 15, 16, 18], .L [19], .K 17, .N [20, 21]] rfl (fun _ _ d _ _ h => by cases d <;> exact h) (fun _ h => h) (by kernel_rfl) ((Chg.refl _).drew) ?_
                apply sigP (Nat.le_refl _)
                · intro w'
                  (simp only [wpPl, pickOps, List.filterMap_cons, List.filterMap_nil, List.getElem?_toArray, List.getElem?_cons_zero, List.getElem?_cons_succ]; iterate 11 (go_wp2; refine ⟨trivial, ?_⟩)); rfl
                apply sigL (by simp)
                · intro w' hS
                  have y0 := blk_cell (hS.blkNo R4.out) 0
                  (simp only [wpPl, pickOps, List.filterMap_cons, List.filterMap_nil, List.getElem?_toArray, List.getElem?_cons_zero, List.getElem?_cons_succ]; iterate 1 (go_wp2; refine ⟨trivial, ?_⟩)); rfl
                apply sigK
                simp only [pickOps, List.filterMap_cons, List.filterMap_nil, List.getElem?_toArray, List.getElem?_cons_zero, List.getElem?_cons_succ]
                go_wp2_with fail
                refine (at_any nb n4 y _ (show CtrAt w4.drew nb n4 y from N4.out)).mono ?_
                rintro e w' ⟨rfl, rfl⟩
                go_wp2_with fail
                refine ⟨(Chg.refl _).drew, ?_⟩
                apply sigP (by simp)
                · intro w'
                  (simp only [wpPl, pickOps, List.filterMap_cons, List.filterMap_nil, List.getElem?_toArray, List.getElem?_cons_zero, List.getElem?_cons_succ]; iterate 5 (go_wp2; refine ⟨trivial, ?_⟩)); rfl
                apply sigL (by simp)
                · intro w' hS
                  have y0 := blk_cell (hS.blkNo R4.out) 1
                  (simp only [wpPl, pickOps, List.filterMap_cons, List.filterMap_nil, List.getElem?_toArray, List.getElem?_cons_zero, List.getElem?_cons_succ]; iterate 1 (go_wp2; refine ⟨trivial, ?_⟩)); rfl
                apply sigK
                simp only [pickOps, List.filterMap_cons, List.filterMap_nil, List.getElem?_toArray, List.getElem?_cons_zero, List.getElem?_cons_succ]
                go_wp2_with fail
                refine (most_any nb n4 y _ (show CtrAt w4.drew nb n4 y from N4.out)).mono ?_
                rintro e w' ⟨rfl, rfl⟩
                go_wp2_with fail
                refine ⟨(Chg.refl _).drew, ?_⟩
                apply sigN
                simp only [pickOps, List.filterMap_cons, List.filterMap_nil, List.getElem?_toArray, List.getElem?_cons_zero, List.getElem?_cons_succ]
                go_wp2_with fail
                apply sigEnd
                go_wp2_with fail
                exact ⟨⟨j + 1, by omega, by omega, by go_num, n4, n40, n41, C4.out.drew, N4.out, R4.out, B14.out, B24.out⟩, by simp [intOf]; omega⟩
            · have hex : (¬ j < zs.length) ∨ (j < zs.length ∧ ¬ j < 12) := by omega
              rcases hex with hx | ⟨hx, hy⟩
              · go_wp2_with fail
                exact ⟨⟨k + 1, by omega, by go_num, C, B1, B2⟩, by simp [intOf]; omega⟩
              · go_wp2_with fail
                exact ⟨⟨k + 1, by omega, by go_num, C, B1, B2⟩, by simp [intOf]; omega⟩
        case h2 =>
          simp only [pickOps, List.filterMap_cons, List.filterMap_nil, List.getElem?_toArray, List.getElem?_cons_zero, List.getElem?_cons_succ]
          go_wp2_with fail
          refine ⟨((Chg.refl w2).drew).alloc _, ?_⟩
          apply sigN
          simp only [pickOps, List.filterMap_cons, List.filterMap_nil, List.getElem?_toArray, List.getElem?_cons_zero, List.getElem?_cons_succ]
          go_wp2_with fail
          refine (rnew_yes x y _ v1 v2 v3 v4).mono ?_
          rintro e w3 ⟨rfl, hc3⟩
          have S3 := Lib.hid (((Chg.refl w2).drew.alloc _).trans hc3)
          have bx : w3.heap[w2.heap.size]? = some (.cells #[.int .i64 0, .int .i64 0] 36 (0, 0)) := hc3.blkNo (blk_new w2.drew _)
          have bx_c0 := blk_cell bx 0; have bx_f0 := blk_free bx 0; have bx_c1 := blk_cell bx 1; have bx_f1 := blk_free bx 1; have H_bx := Lib.hid bx; clear bx
          clear hc3
          go_wp2_with fail
          apply sigP (by simp)
          · intro w'
            (simp only [wpPl, pickOps, List.filterMap_cons, List.filterMap_nil, List.getElem?_toArray, List.getElem?_cons_zero, List.getElem?_cons_succ]; iterate 3 (go_wp2; refine ⟨trivial, ?_⟩)); rfl
          apply sigN
          simp only [pickOps, List.filterMap_cons, List.filterMap_nil, List.getElem?_toArray, List.getElem?_cons_zero, List.getElem?_cons_succ]
          go_wp2_with fail
          apply sigEnd
          have S5 := Lib.hid (show Chg NoM w2 ((w3.setCell ⟨w2.heap.size, 0, none⟩ (.int .i64 x)).setCell ⟨w2.heap.size, 1, none⟩ (.int .i64 y)) from (S3.out.setNew (Nat.le_refl _)).setNew (Nat.le_refl _))
          have R5 := Lib.hid (show RefCtr ((w3.setCell ⟨w2.heap.size, 0, none⟩ (.int .i64 x)).setCell ⟨w2.heap.size, 1, none⟩ (.int .i64 y)) w2.heap.size x y from blk_set (blk_set H_bx.out 0 _) 1 _)
          clear bx_c0 bx_c1 bx_f0 bx_f1 H_bx
          have hcb : w2.heap.size ≤ w2.heap.size := Nat.le_refl _
          obtain ⟨cb, hcb'⟩ : ∃ cb, cb = w2.heap.size := ⟨_, rfl⟩
          rw [← hcb'] at R5 S5 hcb ⊢
          have hcb : w2.heap.size ≤ cb := Nat.le_of_eq hcb'.symm
          clear hcb'
          generalize (w3.setCell ⟨cb, 0, none⟩ (.int .i64 x)).setCell ⟨cb, 1, none⟩ (.int .i64 y) = V at S5 R5 ⊢
          have N5 : Hid (CtrAt V nb x y) := S5.out.blkNo N2.out
          have B1 : Hid (V.heap[w.heap.size]? = some (.cells #[.int .i64 from_, .int .i64 x1] 3 (0, 0))) := S5.out.blkNo B1.out
          have B2 : Hid (V.heap[w.heap.size + 1]? = some (.cells #[.int .i64 most, .int .i64 (1 + y1)] 3 (0, 0))) := S5.out.blkNo B2.out
          have C5 : Hid (Chg NoM w V) := C2.out.trans S5.out
          have hcbw : w.heap.size ≤ cb := Nat.le_trans C2.out.size hcb
          clear S5 N2 C2 hcb
          go_wp2_with fail
          go_loopw [14] (fun i wr => ∃ j : Nat, j ≤ zs.length ∧ j ≤ 12 ∧ i = .int .i64 j ∧ ∃ n : Int, 0 ≤ n ∧ n ≤ y ∧ Hid (Chg NoM w wr) ∧ Hid (CtrAt wr nb n y) ∧ Hid (RefCtr wr cb n y) ∧ Hid (wr.heap[w.heap.size]? = some (.cells #[.int .i64 from_, .int .i64 x1] 3 (0, 0))) ∧
            Hid (wr.heap[w.heap.size + 1]? = some (.cells #[.int .i64 most, .int .i64 (1 + y1)] 3 (0, 0)))) (fun i _ => 12 - (intOf i).toNat)
          case atStart => exact ⟨0, by omega, by omega, rfl, x, v1, v2, C5, N5, R5, B1, B2⟩
          case round =>
            obtain ⟨j, hj, hj12, rfl, n, n0, n1, C, N, R, B1, B2⟩ := hrel
            by_cases hlj : j < zs.length ∧ j < 12
            · obtain ⟨q1, q2⟩ := hlj
              obtain ⟨b, off, hA, hz⟩ := HZ.out.2.2 (by omega)
              cases hA
              have hz1 := hz j _ (List.getElem?_eq_getElem q1)
              have hz2 := HZ.out.1 _ (List.getElem_mem q1)
              obtain ⟨z, hzz⟩ : ∃ z, z = zs[j] := ⟨_, rfl⟩
              rw [← hzz] at hz1 hz2
              clear hzz hz
              have Z0 := Lib.hid hz1
              have z0 : wr.cell? ⟨b, off + j, none⟩ = some (.int .i64 z) := C.out.cellNo hz1
              obtain ⟨z2, z3⟩ := hz2
              clear hz1
              have j1 : (0 : Int) ≤ (j : Int) := by omega
              have j2 : (j : Int) < (zs.length : Int) := by omega
              go_wp2_with fail
              refine (add_any z nb n y wr N.out n0 n1 v4).mono ?_
              rintro e w3 ⟨rfl, hn3, hc3, -⟩
              have N3 := Lib.hid hn3
              have C3 : Hid (Chg NoM w w3) := C.out.thenAll hc3 (BoxM.new hnb)
              have R3 : Hid (RefCtr w3 cb n y) := hc3.block _ _ R.out (BoxM.ne (by decide))
              have B13 : Hid (w3.heap[w.heap.size]? = some (.cells #[.int .i64 from_, .int .i64 x1] 3 (0, 0))) := hc3.block _ _ B1.out (BoxM.ne (by decide))
              have B23 : Hid (w3.heap[w.heap.size + 1]? = some (.cells #[.int .i64 most, .int .i64 (1 + y1)] 3 (0, 0))) := hc3.block _ _ B2.out (BoxM.ne (by decide))
              clear hn3 hc3 z0
              have z0 : w3.cell? ⟨b, off + j, none⟩ = some (.int .i64 z) := C3.out.cellNo Z0.out
              go_wp2_with fail
              refine (radd_any z cb n y w3 R3.out n0 n1 v4).mono ?_
              rintro e w4 ⟨rfl, hn4, hc4, -⟩
              have R4 := Lib.hid hn4
              have C4 : Hid (Chg NoM w w4) := C3.out.thenAll hc4 (BoxM.new hcbw)
              have N4 : Hid (CtrAt w4 nb (addN z n y) y) := hc4.block _ _ N3.out (BoxM.ne (by decide))
              have B14 : Hid (w4.heap[w.heap.size]? = some (.cells #[.int .i64 from_, .int .i64 x1] 3 (0, 0))) := hc4.block _ _ B13.out (BoxM.ne (by decide))
              have B24 : Hid (w4.heap[w.heap.size + 1]? = some (.cells #[.int .i64 most, .int .i64 (1 + y1)] 3 (0, 0))) := hc4.block _ _ B23.out (BoxM.ne (by decide))
              clear hn4 hc4 z0
              have z0 : w4.cell? ⟨b, off + j, none⟩ = some (.int .i64 z) := C4.out.cellNo Z0.out
              have hN := addN_bd z n y n0 n1
              obtain ⟨n4, hn4⟩ : ∃ n4, n4 = addN z n y := ⟨_, rfl⟩
              have HN4 := Lib.hid hn4
              rw [← hn4] at hN N4 R4
              obtain ⟨r4, hr4⟩ : ∃ r4, r4 = addR z n y := ⟨_, rfl⟩
              obtain ⟨e4, he4⟩ : ∃ e4, e4 = addE z n y := ⟨_, rfl⟩
              rw [← hr4, ← he4]
              clear hn4 hr4 he4
              obtain ⟨n40, n41⟩ := hN
              clear N3 C3 R3 B13 B23 N C R B1 B2
              by_cases hm1 : z = -1
              · subst hm1
                go_wp2_with fail
                refine (next_any nb n4 y w4 N4.out n40 n41 v4).mono ?_
                rintro e w5 ⟨rfl, hn5, hc5, -⟩
                have N5 := Lib.hid hn5
                have C5 : Hid (Chg NoM w w5) := C4.out.thenAll hc5 (BoxM.new hnb)
                have R5 : Hid (RefCtr w5 cb n4 y) := hc5.block _ _ R4.out (BoxM.ne (by decide))
                have B15 : Hid (w5.heap[w.heap.size]? = some (.cells #[.int .i64 from_, .int .i64 x1] 3 (0, 0))) := hc5.block _ _ B14.out (BoxM.ne (by decide))
                have B25 : Hid (w5.heap[w.heap.size + 1]? = some (.cells #[.int .i64 most, .int .i64 (1 + y1)] 3 (0, 0))) := hc5.block _ _ B24.out (BoxM.ne (by decide))
                clear hn5 hc5 z0
                go_wp2_with fail
                refine (radd_any 1 cb n4 y w5 R5.out n40 n41 v4).mono ?_
                rintro e w6 ⟨rfl, hn6, hc6, -⟩
                have R6 := Lib.hid hn6
                have C6 : Hid (Chg NoM w w6) := C5.out.thenAll hc6 (BoxM.new hcbw)
                have N6 : Hid (CtrAt w6 nb (addN 1 n4 y) y) := hc6.block _ _ N5.out (BoxM.ne (by decide))
                have B16 : Hid (w6.heap[w.heap.size]? = some (.cells #[.int .i64 from_, .int .i64 x1] 3 (0, 0))) := hc6.block _ _ B15.out (BoxM.ne (by decide))
                have B26 : Hid (w6.heap[w.heap.size + 1]? = some (.cells #[.int .i64 most, .int .i64 (1 + y1)] 3 (0, 0))) := hc6.block _ _ B25.out (BoxM.ne (by decide))
                clear hn6 hc6
                have hN := addN_bd 1 n4 y n40 n41
                obtain ⟨n6, hn6⟩ : ∃ n6, n6 = addN 1 n4 y := ⟨_, rfl⟩
                rw [← hn6] at hN N6 R6
                obtain ⟨r6, hr6⟩ : ∃ r4, r4 = addR 1 n4 y := ⟨_, rfl⟩
                obtain ⟨e6, he6⟩ : ∃ e4, e4 = addE 1 n4 y := ⟨_, rfl⟩
                rw [← hr6, ← he6]
                clear hn6 hr6 he6
                obtain ⟨n60, n61⟩ := hN
                clear N5 C5 R5 B15 B25 N4 C4 R4 B14 B24
                go_wp2_with fail
                refine wp_region_sig 20 (fun w' => Chg NoM w6 w') [.P [0, 1, 2, 3, 4, 5, 6, 7, 8, 9, 11], .L [12], .K 10, .P [13, 14, 15, 16, 18], .L [19], .K 17, .N [20, 21]] rfl (fun _ _ d _ _ h => by cases d <;> exact h) (fun _ h => h) (by kernel_rfl) ((Chg.refl _).drew) ?_
                apply sigP (Nat.le_refl _)
                · intro w'
                  (simp only [wpPl, pickOps, List.filterMap_cons, List.filterMap_nil, List.getElem?_toArray, List.getElem?_cons_zero, List.getElem?_cons_succ]; iterate 11 (go_wp2; refine ⟨trivial, ?_⟩)); rfl
                apply sigL (by simp)
                · intro w' hS
                  have y0 := blk_cell (hS.blkNo R6.out) 0
                  (simp only [wpPl, pickOps, List.filterMap_cons, List.filterMap_nil, List.getElem?_toArray, List.getElem?_cons_zero, List.getElem?_cons_succ]; iterate 1 (go_wp2; refine ⟨trivial, ?_⟩)); rfl
                apply sigK
                simp only [pickOps, List.filterMap_cons, List.filterMap_nil, List.getElem?_toArray, List.getElem?_cons_zero, List.getElem?_cons_succ]
                go_wp2_with fail
                refine (at_any nb n6 y _ (show CtrAt w6.drew nb n6 y from N6.out)).mono ?_
                rintro e w' ⟨rfl, rfl⟩
                go_wp2_with fail
                refine ⟨(Chg.refl _).drew, ?_⟩
                apply sigP (by simp)
                · intro w'
                  (simp only [wpPl, pickOps, List.filterMap_cons, List.filterMap_nil, List.getElem?_toArray, List.getElem?_cons_zero, List.getElem?_cons_succ]; iterate 5 (go_wp2; refine ⟨trivial, ?_⟩)); rfl
                apply sigL (by simp)
                · intro w' hS
                  have y0 := blk_cell (hS.blkNo R6.out) 1
                  (simp only [wpPl, pickOps, List.filterMap_cons, List.filterMap_nil, List.getElem?_toArray, List.getElem?_cons_zero, List.getElem?_cons_succ]; iterate 1 (go_wp2; refine ⟨trivial, ?_⟩)); rfl
                apply sigK
                simp only [pickOps, List.filterMap_cons, List.filterMap_nil, List.getElem?_toArray, List.getElem?_cons_zero, List.getElem?_cons_succ]
                go_wp2_with fail
                refine (most_any nb n6 y _ (show CtrAt w6.drew nb n6 y from N6.out)).mono ?_
                rintro e w' ⟨rfl, rfl⟩
                go_wp2_with fail
                refine ⟨(Chg.refl _).drew, ?_⟩
                apply sigN
                simp only [pickOps, List.filterMap_cons, List.filterMap_nil, List.getElem?_toArray, List.getElem?_cons_zero, List.getElem?_cons_succ]
                go_wp2_with fail
                apply sigEnd
                go_wp2_with fail
                exact ⟨⟨j + 1, by omega, by omega, by go_num, n6, n60, n61, C6.out.drew, N6.out, R6.out, B16.out, B26.out⟩, by simp [intOf]; omega⟩
              · have hm2 : (z == -1) = false := by simp; exact hm1
                go_wp2_with fail
                refine wp_region_sig 20 (fun w' => Chg NoM w4 w') [.P [0, 1, 2, 3, 4, 5, 6, 7, 8, 9, 11], .L [12], .K 10, .P [13, 14, 15, 16, 18], .L [19], .K 17, .N [20, 21]] rfl (fun _ _ d _ _ h => by cases d <;> exact h) (fun _ h => h) (by kernel_rfl) ((Chg.refl _).drew) ?_
                apply sigP (Nat.le_refl _)
                · intro w'
                  (simp only [wpPl, pickOps, List.filterMap_cons, List.filterMap_nil, List.getElem?_toArray, List.getElem?_cons_zero, List.getElem?_cons_succ]; iterate 11 (go_wp2; refine ⟨trivial, ?_⟩)); rfl
                apply sigL (by simp)
                · intro w' hS
                  have y0 := blk_cell (hS.blkNo R4.out) 0
                  (simp only [wpPl, pickOps, List.filterMap_cons, List.filterMap_nil, List.getElem?_toArray, List.getElem?_cons_zero, List.getElem?_cons_succ]; iterate 1 (go_wp2; refine ⟨trivial, ?_⟩)); rfl
                apply sigK
                simp only [pickOps, List.filterMap_cons, List.filterMap_nil, List.getElem?_toArray, List.getElem?_cons_zero, List.getElem?_cons_succ]
                go_wp2_with fail
                refine (at_any nb n4 y _ (show CtrAt w4.drew nb n4 y from N4.out)).mono ?_
                rintro e w' ⟨rfl, rfl⟩
                go_wp2_with fail
                refine ⟨(Chg.refl _).drew, ?_⟩
                apply sigP (by simp)
                · intro w'
                  (simp only [wpPl, pickOps, List.filterMap_cons, List.filterMap_nil, List.getElem?_toArray, List.getElem?_cons_zero, List.getElem?_cons_succ]; iterate 5 (go_wp2; refine ⟨trivial, ?_⟩)); rfl
                apply sigL (by simp)
                · intro w' hS
                  have y0 := blk_cell (hS.blkNo R4.out) 1
                  (simp only [wpPl, pickOps, List.filterMap_cons, List.filterMap_nil, List.getElem?_toArray, List.getElem?_cons_zero, List.getElem?_cons_succ]; iterate 1 (go_wp2; refine ⟨trivial, ?_⟩)); rfl
                apply sigK
                simp only [pickOps, List.filterMap_cons, List.filterMap_nil, List.getElem?_toArray, List.getElem?_cons_zero, List.getElem?_cons_succ]
                go_wp2_with fail
                refine (most_any nb n4 y _ (show CtrAt w4.drew nb n4 y from N4.out)).mono ?_
                rintro e w' ⟨rfl, rfl⟩
                go_wp2_with fail
                refine ⟨(Chg.refl _).drew, ?_⟩
                apply sigN
                simp only [pickOps, List.filterMap_cons, List.filterMap_nil, List.getElem?_toArray, List.getElem?_cons_zero, List.getElem?_cons_succ]
                go_wp2_with fail
                apply sigEnd
                go_wp2_with fail
                exact ⟨⟨j + 1, by omega, by omega, by go_num, n4, n40, n41, C4.out.drew, N4.out, R4.out, B14.out, B24.out⟩, by simp [intOf]; omega⟩
            · have hex : (¬ j < zs.length) ∨ (j < zs.length ∧ ¬ j < 12) := by omega
              rcases hex with hx | ⟨hx, hy⟩
              · go_wp2_with fail
                exact ⟨⟨k + 1, by omega, by go_num, C, B1, B2⟩, by simp [intOf]; omega⟩
              · go_wp2_with fail
                exact ⟨⟨k + 1, by omega, by go_num, C, B1, B2⟩, by simp [intOf]; omega⟩
      · have hv' : y < 1 ∨ 1099511627776 < y ∨ x < 0 ∨ y < x := by omega
        refine (new_no x y _ hv').mono ?_
        rintro e w2 ⟨rfl, rfl⟩
        go_wp2_with fail
        apply sigP (by simp)
        · intro w'
          (simp only [wpPl, pickOps, List.filterMap_cons, List.filterMap_nil, List.getElem?_toArray, List.getElem?_cons_zero, List.getElem?_cons_succ]; iterate 5 (go_wp2; refine ⟨trivial, ?_⟩)); rfl
        apply sigEnd
        go_wp2_with fail
        refine wp_region_fork (A := ?A2) 8 (fun w' => Chg NoM W w') [0, 1, 2, 3, 4, 5, 6, 7] 8 12 [.P [9, 10, 11], .N [12, 13, 14]] [.N [8], .P [9, 10, 11], .N [13, 14]] rfl (fun _ _ d _ _ h => by cases d <;> exact h) (fun _ h => h) (by kernel_rfl) ((Chg.refl _).drew) ?hplB ?h1B ?h2B
        case hplB =>
          intro w' hS
          have y0 := hS.cellNo K0.out
          have y1 := hS.cellNo K1.out
          (simp only [wpPl, pickOps, List.filterMap_cons, List.filterMap_nil, List.getElem?_toArray, List.getElem?_cons_zero, List.getElem?_cons_succ]; iterate 8 (go_wp2; refine ⟨trivial, ?_⟩)); rfl
        case h1B =>
          simp only [pickOps, List.filterMap_cons, List.filterMap_nil, List.getElem?_toArray, List.getElem?_cons_zero, List.getElem?_cons_succ]
          go_wp2_with fail
          refine (rnew_no x y _ hv').mono ?_
          rintro e w3 ⟨rfl, hc3⟩
          have S3 := Lib.hid ((Chg.refl W).drew.trans hc3)
          clear hc3
          go_wp2_with fail
          refine ⟨S3.out, ?_⟩
          apply sigP (by simp)
          · intro w'
            (simp only [wpPl, pickOps, List.filterMap_cons, List.filterMap_nil, List.getElem?_toArray, List.getElem?_cons_zero, List.getElem?_cons_succ]; iterate 3 (go_wp2; refine ⟨trivial, ?_⟩)); rfl
          apply sigN
          simp only [pickOps, List.filterMap_cons, List.filterMap_nil, List.getElem?_toArray, List.getElem?_cons_zero, List.getElem?_cons_succ]
          go_wp2_with fail
          apply sigEnd
          have S5 := Lib.hid (S3.out.alloc (.cells #[.int .i64 0, .int .i64 0] 36))
          generalize w3.alloc (.cells #[.int .i64 0, .int .i64 0] 36) = V at S5 ⊢
          go_wp2_with fail
          exact ⟨⟨k + 1, by omega, by go_num, C1.out.trans S5.out, S5.out.blkNo B1.out, S5.out.blkNo B2.out⟩, by simp [intOf]; omega⟩
        case h2B =>
          simp only [pickOps, List.filterMap_cons, List.filterMap_nil, List.getElem?_toArray, List.getElem?_cons_zero, List.getElem?_cons_succ]
          go_wp2_with fail
          refine ⟨((Chg.refl W).drew).alloc _, ?_⟩
          apply sigN
          simp only [pickOps, List.filterMap_cons, List.filterMap_nil, List.getElem?_toArray, List.getElem?_cons_zero, List.getElem?_cons_succ]
          go_wp2_with fail
          refine (rnew_no x y _ hv').mono ?_
          rintro e w3 ⟨rfl, hc3⟩
          have S3 := Lib.hid (((Chg.refl W).drew.alloc _).trans hc3)
          have bx : w3.heap[W.heap.size]? = some (.cells #[.int .i64 0, .int .i64 0] 36 (0, 0)) := hc3.blkNo (blk_new W.drew _)
          have bx_c0 := blk_cell bx 0; have bx_f0 := blk_free bx 0; have bx_c1 := blk_cell bx 1; have bx_f1 := blk_free bx 1; have H_bx := Lib.hid bx; clear bx
          clear hc3
          go_wp2_with fail
          apply sigP (by simp)
          · intro w'
            (simp only [wpPl, pickOps, List.filterMap_cons, List.filterMap_nil, List.getElem?_toArray, List.getElem?_cons_zero, List.getElem?_cons_succ]; iterate 3 (go_wp2; refine ⟨trivial, ?_⟩)); rfl
          apply sigN
          simp only [pickOps, List.filterMap_cons, List.filterMap_nil, List.getElem?_toArray, List.getElem?_cons_zero, List.getElem?_cons_succ]
          go_wp2_with fail
          apply sigEnd
          have S5 := Lib.hid (show Chg NoM W ((w3.setCell ⟨W.heap.size, 0, none⟩ (.int .i64 0)).setCell ⟨W.heap.size, 1, none⟩ (.int .i64 0)) from (S3.out.setNew (Nat.le_refl _)).setNew (Nat.le_refl _))
          clear bx_c0 bx_c1 bx_f0 bx_f1 H_bx
          generalize (w3.setCell ⟨W.heap.size, 0, none⟩ (.int .i64 0)).setCell ⟨W.heap.size, 1, none⟩ (.int .i64 0) = V at S5 ⊢
          go_wp2_with fail
          exact ⟨⟨k + 1, by omega, by go_num, C1.out.trans S5.out, S5.out.blkNo B1.out, S5.out.blkNo B2.out⟩, by simp [intOf]; omega⟩
    · go_wp2_with (go_at_call 11; refine (lives_true _).mono ?_; rintro e w1 ⟨rfl, hc1⟩)
      go_ret
      exact ⟨rfl, below_of_chg (C.out.trans hc1)⟩
end Go.Proofs.Ytnpahdcepbnamaa
