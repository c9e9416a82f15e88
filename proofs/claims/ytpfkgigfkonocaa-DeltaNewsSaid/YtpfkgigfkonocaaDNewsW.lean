/- The walk of DeltaNews. -/
import Derived.Test.YtpfkgigfkonocaaDLives
import Derived.Test.YtpfkgigfkonocaaSig2
namespace Go.Proofs.Ytpfkgigfkonocaa
set_option linter.unusedVariables false
set_option linter.unusedSimpArgs false
open Go.RowKit

set_option maxHeartbeats 800000 in
theorem rnew_yes (from_ most : Int) (w : World) (h0 : 0 ≤ from_) (h1 : from_ ≤ most) (h2 : 1 ≤ most) (h3 : most ≤ 1099511627776) :
    Calls Try.prog 18 #[.int .i64 from_, .int .i64 most] w fun e w' => e = .returned (.tuple #[.agg #[.int .i64 from_, .int .i64 most], .int .i64 0]) ∧ Chg NoM w w' := by
  go_enter Try.func18, Try.ntmps18
  go_wp2_with fail
  refine bodyPost_ret (v := .tuple #[.agg #[.int .i64 from_, .int .i64 most], .int .i64 0]) (by simp [results, Try.results18, go_sem]) rfl ⟨rfl, ?_⟩
  repeat (first | exact Chg.refl _ | apply Chg.alloc | refine Chg.setNew ?_ (by omega))

set_option maxHeartbeats 800000 in
theorem rnew_no (from_ most : Int) (w : World) (h : most < 1 ∨ 1099511627776 < most ∨ from_ < 0 ∨ most < from_) :
    Calls Try.prog 18 #[.int .i64 from_, .int .i64 most] w fun e w' => e = .returned (.tuple #[.agg #[.int .i64 0, .int .i64 0], .int .i64 1]) ∧ Chg NoM w w' := by
  by_cases h1 : most < 1
  · have h_ := h1
    go_enter Try.func18, Try.ntmps18
    go_wp2_with fail
    refine bodyPost_ret (v := .tuple #[.agg #[.int .i64 0, .int .i64 0], .int .i64 1]) (by simp [results, Try.results18, go_sem]) rfl ⟨rfl, ?_⟩
    repeat (first | exact Chg.refl _ | apply Chg.alloc | refine Chg.setNew ?_ (by omega))
  · by_cases h2 : 1099511627776 < most
    · have h_ := h1
      go_enter Try.func18, Try.ntmps18
      go_wp2_with fail
      refine bodyPost_ret (v := .tuple #[.agg #[.int .i64 0, .int .i64 0], .int .i64 1]) (by simp [results, Try.results18, go_sem]) rfl ⟨rfl, ?_⟩
      repeat (first | exact Chg.refl _ | apply Chg.alloc | refine Chg.setNew ?_ (by omega))
    · by_cases h3 : from_ < 0
      · have h_ := h1
        go_enter Try.func18, Try.ntmps18
        go_wp2_with fail
        refine bodyPost_ret (v := .tuple #[.agg #[.int .i64 0, .int .i64 0], .int .i64 1]) (by simp [results, Try.results18, go_sem]) rfl ⟨rfl, ?_⟩
        repeat (first | exact Chg.refl _ | apply Chg.alloc | refine Chg.setNew ?_ (by omega))
      · have h4 : most < from_ := by omega
        go_enter Try.func18, Try.ntmps18
        go_wp2_with fail
        refine bodyPost_ret (v := .tuple #[.agg #[.int .i64 0, .int .i64 0], .int .i64 1]) (by simp [results, Try.results18, go_sem]) rfl ⟨rfl, ?_⟩
        repeat (first | exact Chg.refl _ | apply Chg.alloc | refine Chg.setNew ?_ (by omega))


set_option maxHeartbeats 8000000 in
theorem news_walk (from_ most : Int) (w : World) (h1 : -9223372036854775808 ≤ from_) (h2 : from_ ≤ 9223372036854775807) (h3 : -9223372036854775808 ≤ most) (h4 : most ≤ 9223372036854775807) :
    Calls Try.prog 5 #[.int .i64 from_, .int .i64 most] w fun e w' => e = .returned (.bool true) ∧ Below w.heap.size w w' := by
  have A0 := Lib.hid (around_any from_ 10 w h1 h2 (by omega) (by omega))
  obtain ⟨x1, hx1⟩ : ∃ x, x = aroundI from_ 10 := ⟨_, rfl⟩
  rw [← hx1] at A0
  have A1 := Lib.hid (fun w' => around_any most 10 w' h3 h4 (by omega) (by omega))
  obtain ⟨y1, hy1⟩ : ∃ x, x = aroundI most 10 := ⟨_, rfl⟩
  rw [← hy1] at A1
  clear hx1 hy1
  go_enter Try.func5, Try.ntmps5
  go_wp2_with fail
  refine A0.out.mono ?_
  rintro e w1 ⟨rfl, rfl⟩
  go_wp2_with fail
  refine (A1.out _).mono ?_
  rintro e w1 ⟨rfl, rfl⟩
  go_wp2_with fail
  go_loopw [7] (fun i wr => ∃ k : Nat, k ≤ 2 ∧ i = .int .i64 k ∧ Hid (Chg NoM w wr) ∧ Hid (wr.heap[w.heap.size]? = some (.cells #[.int .i64 from_, .int .i64 x1] 3 (0, 0))) ∧
    Hid (wr.heap[w.heap.size + 1]? = some (.cells #[.int .i64 most, .int .i64 y1] 3 (0, 0)))) (fun i _ => 2 - (intOf i).toNat)
  case atStart => exact ⟨0, by omega, rfl, ((Chg.refl w).alloc _).alloc _, blk_alloc (blk_new w _) _, Lib.hid (by simpa using blk_new (w.alloc _) _)⟩
  case round =>
    obtain ⟨k, hk, rfl, C, B1, B2⟩ := hrel
    by_cases hlt : k < 2
    · obtain ⟨x, y, hk0, hk1⟩ : ∃ x y, wr.cell? ⟨w.heap.size, k, none⟩ = some (.int .i64 x) ∧ wr.cell? ⟨w.heap.size + 1, k, none⟩ = some (.int .i64 y) := by
        have : k = 0 ∨ k = 1 := by omega
        rcases this with rfl | rfl
        · exact ⟨_, _, blk_cell B1.out 0, blk_cell B2.out 0⟩
        · exact ⟨_, _, blk_cell B1.out 1, blk_cell B2.out 1⟩
      have K0 := Lib.hid hk0
      have K1 := Lib.hid hk1
      clear hk0 hk1
      have i1 : (0 : Int) ≤ (k : Int) := by omega
      have i2 : (k : Int) < 2 := by omega
      go_wp2_with fail
      refine wp_region_sig 8 (fun w' => Chg NoM wr w') [.L [0, 1, 2, 3, 4, 5, 6, 7], .N [8], .P [9, 10, 11, 12, 13]] rfl (fun _ _ d _ _ h => by cases d <;> exact h) (fun _ h => h) (by kernel_rfl) ((Chg.refl _).drew) ?_
      apply sigL (Nat.le_refl _)
      · intro w' hS
        have y0 := hS.cellNo K0.out
        have y1 := hS.cellNo K1.out
        (simp only [wpPl, pickOps, List.filterMap_cons, List.filterMap_nil, List.getElem?_toArray, List.getElem?_cons_zero, List.getElem?_cons_succ]; iterate 8 (go_wp2; refine ⟨trivial, ?_⟩)); rfl
      apply sigN
      simp only [pickOps, List.filterMap_cons, List.filterMap_nil, List.getElem?_toArray, List.getElem?_cons_zero, List.getElem?_cons_succ]
      have C1 : Hid (Chg NoM w wr.drew) := C.out.drew
      have B1 : Hid (wr.drew.heap[w.heap.size]? = some (.cells #[.int .i64 from_, .int .i64 x1] 3 (0, 0))) := B1.out
      have B2 : Hid (wr.drew.heap[w.heap.size + 1]? = some (.cells #[.int .i64 most, .int .i64 y1] 3 (0, 0))) := B2.out
      have K0 : Hid (wr.drew.cell? ⟨w.heap.size, k, none⟩ = some (.int .i64 x)) := K0.out
      have K1 : Hid (wr.drew.cell? ⟨w.heap.size + 1, k, none⟩ = some (.int .i64 y)) := K1.out
      clear C
      generalize wr.drew = W at C1 B1 B2 K0 K1 ⊢
      skip
      go_wp2_with fail
      by_cases hv : 0 ≤ x ∧ x ≤ y ∧ 1 ≤ y ∧ y ≤ 1099511627776
      · obtain ⟨v1, v2, v3, v4⟩ := hv
        refine (new_yes x y _ v1 v2 v3 v4).mono ?_
        rintro e w2 ⟨rfl, hn2, hc2⟩
        have N2 := Lib.hid hn2
        have C2 : Hid (Chg NoM w w2) := C1.out.trans hc2
        have B1 : Hid (w2.heap[w.heap.size]? = some (.cells #[.int .i64 from_, .int .i64 x1] 3 (0, 0))) := hc2.blkNo B1.out
        have B2 : Hid (w2.heap[w.heap.size + 1]? = some (.cells #[.int .i64 most, .int .i64 y1] 3 (0, 0))) := hc2.blkNo B2.out
        have K0 : Hid (w2.cell? ⟨w.heap.size, k, none⟩ = some (.int .i64 x)) := hc2.cellNo K0.out
        have K1 : Hid (w2.cell? ⟨w.heap.size + 1, k, none⟩ = some (.int .i64 y)) := hc2.cellNo K1.out
        clear hn2 hc2 C1
        go_wp2_with fail
        apply sigP (by simp)
        · intro w'
          (simp only [wpPl, pickOps, List.filterMap_cons, List.filterMap_nil, List.getElem?_toArray, List.getElem?_cons_zero, List.getElem?_cons_succ]; iterate 5 (go_wp2; refine ⟨trivial, ?_⟩)); rfl
        apply sigEnd
        go_wp2_with fail
        refine wp_region_fork (A := ?A) 8 (fun w' => Chg NoM w2 w') [0, 1, 2, 3, 4, 5, 6, 7] 8 12 [.P [9, 10, 11], .N [12, 13, 14]] [.N [8], .P [9, 10, 11], .N [13, 14]] rfl (fun _ _ d _ _ h => by cases d <;> exact h) (fun _ h => h) (by kernel_rfl) ((Chg.refl _).drew) ?hpl ?h1 ?h2
        case hpl =>
          intro w' hS
          have y0 := hS.cellNo K0.out
          have y1 := hS.cellNo K1.out
          (simp only [wpPl, pickOps, List.filterMap_cons, List.filterMap_nil, List.getElem?_toArray, List.getElem?_cons_zero, List.getElem?_cons_succ]; iterate 8 (go_wp2; refine ⟨trivial, ?_⟩)); rfl
        case h1 =>
          simp only [pickOps, List.filterMap_cons, List.filterMap_nil, List.getElem?_toArray, List.getElem?_cons_zero, List.getElem?_cons_succ]
          go_wp2_with fail
          refine (rnew_yes x y _ v1 v2 v3 v4).mono ?_
          rintro e w3 ⟨rfl, hc3⟩
          have S3 := Lib.hid ((Chg.refl w2).drew.trans hc3)
          clear hc3
          go_wp2_with fail
          refine ⟨S3.out, ?_⟩
          apply sigP (by simp)
          · intro w'
            (simp only [wpPl, pickOps, List.filterMap_cons, List.filterMap_nil, List.getElem?_toArray, List.getElem?_cons_zero, List.getElem?_cons_succ]; iterate 3 (go_wp2; refine ⟨trivial, ?_⟩)); rfl
          apply sigN
          simp only [pickOps, List.filterMap_cons, List.filterMap_nil, List.getElem?_toArray, List.getElem?_cons_zero, List.getElem?_cons_succ]
          go_wp2_with fail
          apply sigEnd
          have S5 := Lib.hid (S3.out.alloc (.cells #[.int .i64 x, .int .i64 y] 41))
          generalize w3.alloc (.cells #[.int .i64 x, .int .i64 y] 41) = V at S5 ⊢
          have LV := Lib.hid (N2.out.chgNo S5.out)
          have AT : Hid (∀ X, Chg NoM V X → Calls Try.prog 14 #[.pointer (some ⟨W.heap.size + 2, 0, none⟩)] X fun e w' => e = .returned (.int .i64 x) ∧ X = w') := fun X hX => by
            have h := at_any (LV.out.chgNo hX)
            simpa using h
          have RM : Hid (∀ X, Chg NoM V X → Calls Try.prog 17 #[.pointer (some ⟨W.heap.size + 2, 0, none⟩)] X fun e w' => e = .returned (.int .i64 (y - x)) ∧ Chg NoM X w') := fun X hX => by
            have h := room_any (LV.out.chgNo hX) v1 (by simpa using v2) v4
            simpa using h
          have CV : Hid (Chg NoM w V) := C2.out.trans S5.out
          have B1V := Lib.hid (S5.out.blkNo B1.out)
          have B2V := Lib.hid (S5.out.blkNo B2.out)
          have K0V := Lib.hid (S5.out.cellNo K0.out)
          have K1V := Lib.hid (S5.out.cellNo K1.out)
          have hne : (x == x) = true := by simp
          have hne2 : (y - x == y - x) = true := by simp
          clear B1 B2 K0 K1
          go_wp2_with fail
          refine wp_region_sig 23 (fun w' => Chg NoM V w') [.L [0, 2, 3, 4, 5], .K 1, .L [6, 7, 8, 10, 11, 12, 13, 14, 15, 16, 17, 18], .K 9, .L [19, 20, 21, 22], .N [23, 24, 25, 26]] rfl (fun _ _ d _ _ h => by cases d <;> exact h) (fun _ h => h) (by kernel_rfl) ((Chg.refl _).drew) ?_
          apply sigL (Nat.le_refl _)
          · intro w' hS
            have y0 := hS.cellNo K0V.out
            (simp only [wpPl, pickOps, List.filterMap_cons, List.filterMap_nil, List.getElem?_toArray, List.getElem?_cons_zero, List.getElem?_cons_succ]; iterate 5 (go_wp2; refine ⟨trivial, ?_⟩)); rfl
          apply sigK
          simp only [pickOps, List.filterMap_cons, List.filterMap_nil, List.getElem?_toArray, List.getElem?_cons_zero, List.getElem?_cons_succ]
          go_wp2_with fail
          refine (AT.out V.drew ((Chg.refl V).drew)).mono ?_
          rintro e w4 ⟨rfl, rfl⟩
          go_wp2_with fail
          refine ⟨(Chg.refl V).drew, ?_⟩
          apply sigL (by simp)
          · intro w' hS
            have y0 := hS.cellNo K0V.out
            have y1 := hS.cellNo K1V.out
            (simp only [wpPl, pickOps, List.filterMap_cons, List.filterMap_nil, List.getElem?_toArray, List.getElem?_cons_zero, List.getElem?_cons_succ]; iterate 12 (go_wp2; refine ⟨trivial, ?_⟩)); rfl
          apply sigK
          simp only [pickOps, List.filterMap_cons, List.filterMap_nil, List.getElem?_toArray, List.getElem?_cons_zero, List.getElem?_cons_succ]
          go_wp2_with fail
          refine (RM.out V.drew ((Chg.refl V).drew)).mono ?_
          rintro e w4 ⟨rfl, hc4⟩
          have C4 := Lib.hid (Chg.ofDrew hc4)
          clear hc4
          go_wp2_with fail
          refine ⟨C4.out, ?_⟩
          apply sigL (by simp)
          · intro w' hS
            (simp only [wpPl, pickOps, List.filterMap_cons, List.filterMap_nil, List.getElem?_toArray, List.getElem?_cons_zero, List.getElem?_cons_succ]; iterate 4 (go_wp2; refine ⟨trivial, ?_⟩)); rfl
          apply sigN
          simp only [pickOps, List.filterMap_cons, List.filterMap_nil, List.getElem?_toArray, List.getElem?_cons_zero, List.getElem?_cons_succ]
          have L4 := Lib.hid (LV.out.chgNo C4.out)
          go_wp2_with fail
          refine (since_any 0 w4 L4.out (fun s hs => by simp at hs) (by simp)).mono ?_
          rintro e w5 ⟨g5, rfl, hg5, hb5, hc5⟩
          have C5 := Lib.hid (C4.out.trans hc5)
          have hz : (sinceL x [] 0).length = 0 := rfl
          rw [hz]
          clear hg5 hb5 hc5 hz
          go_wp2_with fail
          apply sigEnd
          go_wp2_with fail
          exact ⟨⟨k + 1, by omega, by go_num, CV.out.trans C5.out, C5.out.blkNo B1V.out, C5.out.blkNo B2V.out⟩, by simp [intOf]; omega⟩
        case h2 =>
          simp only [pickOps, List.filterMap_cons, List.filterMap_nil, List.getElem?_toArray, List.getElem?_cons_zero, List.getElem?_cons_succ]
          go_wp2_with fail
          refine ⟨((Chg.refl w2).drew).alloc _, ?_⟩
          apply sigN
          simp only [pickOps, List.filterMap_cons, List.filterMap_nil, List.getElem?_toArray, List.getElem?_cons_zero, List.getElem?_cons_succ]
          go_wp2_with fail
          refine (rnew_yes x y _ v1 v2 v3 v4).mono ?_
          rintro e w3 ⟨rfl, hc3⟩
          have S3 := Lib.hid (((Chg.refl w2).drew.alloc _).trans hc3)
          have bx : w3.heap[w2.heap.size]? = some (.cells #[.int .i64 0, .int .i64 0] 41 (0, 0)) := hc3.blkNo (blk_new w2.drew _)
          have bx_c0 := blk_cell bx 0; have bx_f0 := blk_free bx 0; have bx_c1 := blk_cell bx 1; have bx_f1 := blk_free bx 1; have H_bx := Lib.hid bx; clear bx
          clear hc3
          go_wp2_with fail
          apply sigP (by simp)
          · intro w'
            (simp only [wpPl, pickOps, List.filterMap_cons, List.filterMap_nil, List.getElem?_toArray, List.getElem?_cons_zero, List.getElem?_cons_succ]; iterate 3 (go_wp2; refine ⟨trivial, ?_⟩)); rfl
          apply sigN
          simp only [pickOps, List.filterMap_cons, List.filterMap_nil, List.getElem?_toArray, List.getElem?_cons_zero, List.getElem?_cons_succ]
          go_wp2_with fail
          apply sigEnd
          have S5 := Lib.hid (show Chg NoM w2 ((w3.setCell ⟨w2.heap.size, 0, none⟩ (.int .i64 x)).setCell ⟨w2.heap.size, 1, none⟩ (.int .i64 y)) from (S3.out.setNew (Nat.le_refl _)).setNew (Nat.le_refl _))
          clear bx_c0 bx_c1 bx_f0 bx_f1 H_bx
          generalize (w3.setCell ⟨w2.heap.size, 0, none⟩ (.int .i64 x)).setCell ⟨w2.heap.size, 1, none⟩ (.int .i64 y) = V at S5 ⊢
          have LV := Lib.hid (N2.out.chgNo S5.out)
          have AT : Hid (∀ X, Chg NoM V X → Calls Try.prog 14 #[.pointer (some ⟨W.heap.size + 2, 0, none⟩)] X fun e w' => e = .returned (.int .i64 x) ∧ X = w') := fun X hX => by
            have h := at_any (LV.out.chgNo hX)
            simpa using h
          have RM : Hid (∀ X, Chg NoM V X → Calls Try.prog 17 #[.pointer (some ⟨W.heap.size + 2, 0, none⟩)] X fun e w' => e = .returned (.int .i64 (y - x)) ∧ Chg NoM X w') := fun X hX => by
            have h := room_any (LV.out.chgNo hX) v1 (by simpa using v2) v4
            simpa using h
          have CV : Hid (Chg NoM w V) := C2.out.trans S5.out
          have B1V := Lib.hid (S5.out.blkNo B1.out)
          have B2V := Lib.hid (S5.out.blkNo B2.out)
          have K0V := Lib.hid (S5.out.cellNo K0.out)
          have K1V := Lib.hid (S5.out.cellNo K1.out)
          have hne : (x == x) = true := by simp
          have hne2 : (y - x == y - x) = true := by simp
          clear B1 B2 K0 K1
          go_wp2_with fail
          refine wp_region_sig 23 (fun w' => Chg NoM V w') [.L [0, 2, 3, 4, 5], .K 1, .L [6, 7, 8, 10, 11, 12, 13, 14, 15, 16, 17, 18], .K 9, .L [19, 20, 21, 22], .N [23, 24, 25, 26]] rfl (fun _ _ d _ _ h => by cases d <;> exact h) (fun _ h => h) (by kernel_rfl) ((Chg.refl _).drew) ?_
          apply sigL (Nat.le_refl _)
          · intro w' hS
            have y0 := hS.cellNo K0V.out
            (simp only [wpPl, pickOps, List.filterMap_cons, List.filterMap_nil, List.getElem?_toArray, List.getElem?_cons_zero, List.getElem?_cons_succ]; iterate 5 (go_wp2; refine ⟨trivial, ?_⟩)); rfl
          apply sigK
          simp only [pickOps, List.filterMap_cons, List.filterMap_nil, List.getElem?_toArray, List.getElem?_cons_zero, List.getElem?_cons_succ]
          go_wp2_with fail
          refine (AT.out V.drew ((Chg.refl V).drew)).mono ?_
          rintro e w4 ⟨rfl, rfl⟩
          go_wp2_with fail
          refine ⟨(Chg.refl V).drew, ?_⟩
          apply sigL (by simp)
          · intro w' hS
            have y0 := hS.cellNo K0V.out
            have y1 := hS.cellNo K1V.out
            (simp only [wpPl, pickOps, List.filterMap_cons, List.filterMap_nil, List.getElem?_toArray, List.getElem?_cons_zero, List.getElem?_cons_succ]; iterate 12 (go_wp2; refine ⟨trivial, ?_⟩)); rfl
          apply sigK
          simp only [pickOps, List.filterMap_cons, List.filterMap_nil, List.getElem?_toArray, List.getElem?_cons_zero, List.getElem?_cons_succ]
          go_wp2_with fail
          refine (RM.out V.drew ((Chg.refl V).drew)).mono ?_
          rintro e w4 ⟨rfl, hc4⟩
          have C4 := Lib.hid (Chg.ofDrew hc4)
          clear hc4
          go_wp2_with fail
          refine ⟨C4.out, ?_⟩
          apply sigL (by simp)
          · intro w' hS
            (simp only [wpPl, pickOps, List.filterMap_cons, List.filterMap_nil, List.getElem?_toArray, List.getElem?_cons_zero, List.getElem?_cons_succ]; iterate 4 (go_wp2; refine ⟨trivial, ?_⟩)); rfl
          apply sigN
          simp only [pickOps, List.filterMap_cons, List.filterMap_nil, List.getElem?_toArray, List.getElem?_cons_zero, List.getElem?_cons_succ]
          have L4 := Lib.hid (LV.out.chgNo C4.out)
          go_wp2_with fail
          refine (since_any 0 w4 L4.out (fun s hs => by simp at hs) (by simp)).mono ?_
          rintro e w5 ⟨g5, rfl, hg5, hb5, hc5⟩
          have C5 := Lib.hid (C4.out.trans hc5)
          have hz : (sinceL x [] 0).length = 0 := rfl
          rw [hz]
          clear hg5 hb5 hc5 hz
          go_wp2_with fail
          apply sigEnd
          go_wp2_with fail
          exact ⟨⟨k + 1, by omega, by go_num, CV.out.trans C5.out, C5.out.blkNo B1V.out, C5.out.blkNo B2V.out⟩, by simp [intOf]; omega⟩
      · have hv' : y < 1 ∨ 1099511627776 < y ∨ x < 0 ∨ y < x := by omega
        refine (new_no x y _ hv').mono ?_
        rintro e w2 ⟨rfl, rfl⟩
        go_wp2_with fail
        apply sigP (by simp)
        · intro w'
          (simp only [wpPl, pickOps, List.filterMap_cons, List.filterMap_nil, List.getElem?_toArray, List.getElem?_cons_zero, List.getElem?_cons_succ]; iterate 5 (go_wp2; refine ⟨trivial, ?_⟩)); rfl
        apply sigEnd
        go_wp2_with fail
        refine wp_region_fork (A := ?A2) 8 (fun w' => Chg NoM W w') [0, 1, 2, 3, 4, 5, 6, 7] 8 12 [.P [9, 10, 11], .N [12, 13, 14]] [.N [8], .P [9, 10, 11], .N [13, 14]] rfl (fun _ _ d _ _ h => by cases d <;> exact h) (fun _ h => h) (by kernel_rfl) ((Chg.refl _).drew) ?hplB ?h1B ?h2B
        case hplB =>
          intro w' hS
          have y0 := hS.cellNo K0.out
          have y1 := hS.cellNo K1.out
          (simp only [wpPl, pickOps, List.filterMap_cons, List.filterMap_nil, List.getElem?_toArray, List.getElem?_cons_zero, List.getElem?_cons_succ]; iterate 8 (go_wp2; refine ⟨trivial, ?_⟩)); rfl
        case h1B =>
          simp only [pickOps, List.filterMap_cons, List.filterMap_nil, List.getElem?_toArray, List.getElem?_cons_zero, List.getElem?_cons_succ]
          go_wp2_with fail
          refine (rnew_no x y _ hv').mono ?_
          rintro e w3 ⟨rfl, hc3⟩
          have S3 := Lib.hid ((Chg.refl W).drew.trans hc3)
          clear hc3
          go_wp2_with fail
          refine ⟨S3.out, ?_⟩
          apply sigP (by simp)
          · intro w'
            (simp only [wpPl, pickOps, List.filterMap_cons, List.filterMap_nil, List.getElem?_toArray, List.getElem?_cons_zero, List.getElem?_cons_succ]; iterate 3 (go_wp2; refine ⟨trivial, ?_⟩)); rfl
          apply sigN
          simp only [pickOps, List.filterMap_cons, List.filterMap_nil, List.getElem?_toArray, List.getElem?_cons_zero, List.getElem?_cons_succ]
          go_wp2_with fail
          apply sigEnd
          have S5 := Lib.hid (S3.out.alloc (.cells #[.int .i64 0, .int .i64 0] 41))
          generalize w3.alloc (.cells #[.int .i64 0, .int .i64 0] 41) = V at S5 ⊢
          go_wp2_with fail
          exact ⟨⟨k + 1, by omega, by go_num, C1.out.trans S5.out, S5.out.blkNo B1.out, S5.out.blkNo B2.out⟩, by simp [intOf]; omega⟩
        case h2B =>
          simp only [pickOps, List.filterMap_cons, List.filterMap_nil, List.getElem?_toArray, List.getElem?_cons_zero, List.getElem?_cons_succ]
          go_wp2_with fail
          refine ⟨((Chg.refl W).drew).alloc _, ?_⟩
          apply sigN
          simp only [pickOps, List.filterMap_cons, List.filterMap_nil, List.getElem?_toArray, List.getElem?_cons_zero, List.getElem?_cons_succ]
          go_wp2_with fail
          refine (rnew_no x y _ hv').mono ?_
          rintro e w3 ⟨rfl, hc3⟩
          have S3 := Lib.hid (((Chg.refl W).drew.alloc _).trans hc3)
          have bx : w3.heap[W.heap.size]? = some (.cells #[.int .i64 0, .int .i64 0] 41 (0, 0)) := hc3.blkNo (blk_new W.drew _)
          have bx_c0 := blk_cell bx 0; have bx_f0 := blk_free bx 0; have bx_c1 := blk_cell bx 1; have bx_f1 := blk_free bx 1; have H_bx := Lib.hid bx; clear bx
          clear hc3
          go_wp2_with fail
          apply sigP (by simp)
          · intro w'
            (simp only [wpPl, pickOps, List.filterMap_cons, List.filterMap_nil, List.getElem?_toArray, List.getElem?_cons_zero, List.getElem?_cons_succ]; iterate 3 (go_wp2; refine ⟨trivial, ?_⟩)); rfl
          apply sigN
          simp only [pickOps, List.filterMap_cons, List.filterMap_nil, List.getElem?_toArray, List.getElem?_cons_zero, List.getElem?_cons_succ]
          go_wp2_with fail
          apply sigEnd
          have S5 := Lib.hid (show Chg NoM W ((w3.setCell ⟨W.heap.size, 0, none⟩ (.int .i64 0)).setCell ⟨W.heap.size, 1, none⟩ (.int .i64 0)) from (S3.out.setNew (Nat.le_refl _)).setNew (Nat.le_refl _))
          clear bx_c0 bx_c1 bx_f0 bx_f1 H_bx
          generalize (w3.setCell ⟨W.heap.size, 0, none⟩ (.int .i64 0)).setCell ⟨W.heap.size, 1, none⟩ (.int .i64 0) = V at S5 ⊢
          go_wp2_with fail
          exact ⟨⟨k + 1, by omega, by go_num, C1.out.trans S5.out, S5.out.blkNo B1.out, S5.out.blkNo B2.out⟩, by simp [intOf]; omega⟩
    · go_wp2_with (go_at_call 15; refine (lives_true _).mono ?_; rintro e w1 ⟨rfl, hc1⟩)
      go_ret
      exact ⟨rfl, below_of_chg (C.out.trans hc1)⟩
end Go.Proofs.Ytpfkgigfkonocaa
