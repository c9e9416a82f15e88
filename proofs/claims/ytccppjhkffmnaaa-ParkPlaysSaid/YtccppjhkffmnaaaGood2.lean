/- Good, of kind 0; Waits; Few. -/
import Derived.Test.YtccppjhkffmnaaaGood
import Derived.Test.YtccppjhkffmnaaaSig3
namespace Go.Proofs.Ytccppjhkffmnaaa
set_option linter.unusedVariables false
set_option linter.unusedSimpArgs false
open Go.RowKit

set_option maxHeartbeats 2000000 in
theorem good_some (e : Edu) (w : World) (hk : e.kind = 0) (b1 : -9223372036854775808 ≤ e.span) (b2 : e.span ≤ 9223372036854775807) (b3 : -9223372036854775808 ≤ e.state) (b4 : e.state ≤ 9223372036854775807)
    (b5 : -9223372036854775808 ≤ e.tick) (b6 : e.tick ≤ 9223372036854775807) (b7 : -9223372036854775808 ≤ e.stamp) (b8 : e.stamp ≤ 9223372036854775807) (b9 : e.event.size ≤ 9223372036854775807) (b10 : e.thread.size ≤ 9223372036854775807) :
    Calls Try.prog 23 #[e.agg] w fun en w' => ∃ f : Edu, en = .returned f.agg ∧ Chg NoM w w' := by
  obtain ⟨e0, e1, e2, e3, e4, e5, e6, e7, e8, e9, e10⟩ := e
  simp only at hk b1 b2 b3 b4 b5 b6 b7 b8 b9 b10
  subst hk
  unfold Edu.agg
  go_enter Try.func23, Try.ntmps23
  go_wp2_with fail
  have cW : Chg NoM w ((w.alloc (.cells (Edu.mk 0 e1 e2 e3 e4 e5 e6 e7 e8 e9 e10).arr 32)).alloc (.cells zarr 32)) := ((Chg.refl _).alloc _).alloc _
  have bE : ((w.alloc (.cells (Edu.mk 0 e1 e2 e3 e4 e5 e6 e7 e8 e9 e10).arr 32)).alloc (.cells zarr 32)).heap[w.heap.size]? = some (.cells (Edu.mk 0 e1 e2 e3 e4 e5 e6 e7 e8 e9 e10).arr 32 (0, 0)) := blk_alloc (blk_new w _) _
  have bZ : ((w.alloc (.cells (Edu.mk 0 e1 e2 e3 e4 e5 e6 e7 e8 e9 e10).arr 32)).alloc (.cells zarr 32)).heap[w.heap.size + 1]? = some (.cells zarr 32 (0, 0)) := by
    have h := blk_new (w.alloc (.cells (Edu.mk 0 e1 e2 e3 e4 e5 e6 e7 e8 e9 e10).arr 32)) (.cells zarr 32)
    rwa [show (w.alloc (.cells (Edu.mk 0 e1 e2 e3 e4 e5 e6 e7 e8 e9 e10).arr 32)).heap.size = w.heap.size + 1 by simp] at h
  generalize (w.alloc (.cells (Edu.mk 0 e1 e2 e3 e4 e5 e6 e7 e8 e9 e10).arr 32)).alloc (.cells zarr 32) = W at cW bE bZ ⊢
  have hl := lt_of_blk bZ
  have CW := Lib.hid cW
  have BE := Lib.hid bE
  have BZ := Lib.hid bZ
  have A0 : Hid (∀ V, Calls Try.prog 8 #[.int .i64 0, .int .i64 3] V fun e w' => e = .returned (.int .i64 0) ∧ V = w') := fun V => around_any 0 3 V (by omega) (by omega) (by omega) (by omega)
  have A9 := Lib.hid (fun V => around_any e9 100 V b5 b6 (by omega) (by omega))
  have A10 := Lib.hid (fun V => around_any e10 9 V b7 b8 (by omega) (by omega))
  obtain ⟨t9, h9⟩ : ∃ t, t = aroundI e9 100 := ⟨_, rfl⟩
  obtain ⟨t10, h10⟩ : ∃ t, t = aroundI e10 9 := ⟨_, rfl⟩
  rw [← h9] at A9
  rw [← h10] at A10
  have US := Lib.hid (fun V => user_some e8 V b3 b4)
  have RS := Lib.hid (fun V => room_some e7 V b1 b2)
  have A99 := Lib.hid (fun V => around_any e9 9 V b5 b6 (by omega) (by omega))
  obtain ⟨u9, hu9⟩ : ∃ u, u = aroundI e9 9 := ⟨_, rfl⟩
  have hu := aroundI_bd e9 9 (by omega)
  rw [← hu9] at A99 hu
  obtain ⟨hu0, hu1⟩ := hu
  clear hu9
  have ES := Lib.hid (fun V => event_some (wrap64 (↑e3.size + u9)) V (by unfold wrap64; omega) (by unfold wrap64; omega))
  have TS := Lib.hid (fun V => thread_some (↑e4.size) V (by omega) (by omega))
  clear cW bE bZ h9 h10
  refine wp_region_tree 15 (fun w' => Chg NoM W w') (.pl [0, 4, 7, 10] (.ll [1, 5, 8, 11] (.fork 2 14 (.pl [3] (.fork 6 14 (.fork 9 14 (.fork 12 14 (.pl [13] (.seq [.K 14, .N [15]])) (.seq [.K 12, .P [13], .N [15]])) (.seq [.K 9, .K 12, .P [13], .N [15]])) (.seq [.K 6, .K 9, .K 12, .P [13], .N [15]]))) (.seq [.K 2, .P [3], .K 6, .K 9, .K 12, .P [13], .N [15]])))) rfl (fun _ _ d _ _ h => by cases d <;> exact h) (fun _ h => h) (by kernel_rfl) ((Chg.refl _).drew) ?_
  apply treeP (Nat.le_refl _)
  · intro w'
    (simp only [wpPl, pickOps, List.filterMap_cons, List.filterMap_nil, List.getElem?_toArray, List.getElem?_cons_zero, List.getElem?_cons_succ]; iterate 4 (go_wp2; refine ⟨trivial, ?_⟩)); rfl
  apply treeL (by simp)
  · intro w' hS
    have y0 := blk_cell (hS.blkNo BE.out) 0
    have y8 := blk_cell (hS.blkNo BE.out) 8
    have y9 := blk_cell (hS.blkNo BE.out) 9
    have y10 := blk_cell (hS.blkNo BE.out) 10
    (simp only [wpPl, pickOps, List.filterMap_cons, List.filterMap_nil, List.getElem?_toArray, List.getElem?_cons_zero, List.getElem?_cons_succ]; iterate 4 (go_wp2; refine ⟨trivial, ?_⟩)); rfl
  apply treeF
  · simp only [pickOps, List.filterMap_cons, List.filterMap_nil, List.getElem?_toArray, List.getElem?_cons_zero, List.getElem?_cons_succ]
    go_wp2_with fail
    refine (A0.out _).mono ?_
    rintro en w' ⟨rfl, rfl⟩
    go_wp2_with fail
    refine ⟨(Chg.refl W).drew, ?_⟩
    apply treeP (by simp)
    · intro w'
      (simp only [wpPl, pickOps, List.filterMap_cons, List.filterMap_nil, List.getElem?_toArray, List.getElem?_cons_zero, List.getElem?_cons_succ]; iterate 1 (go_wp2; refine ⟨trivial, ?_⟩)); rfl
    apply treeF
    · simp only [pickOps, List.filterMap_cons, List.filterMap_nil, List.getElem?_toArray, List.getElem?_cons_zero, List.getElem?_cons_succ]
      go_wp2_with fail
      refine (US.out _).mono ?_
      rintro en w1 ⟨s, rfl, hc1, -⟩
      have C1 : Hid (Chg NoM W w1) := (Chg.refl W).drew.trans hc1
      clear hc1
      have lo : W.heap.size ≤ w1.heap.size := C1.out.size
      go_wp2_with fail
      refine ⟨C1.out, ?_⟩
      apply treeF
      · simp only [pickOps, List.filterMap_cons, List.filterMap_nil, List.getElem?_toArray, List.getElem?_cons_zero, List.getElem?_cons_succ]
        go_wp2_with fail
        refine (A9.out _).mono ?_
        rintro en w' ⟨rfl, rfl⟩
        go_wp2_with fail
        refine ⟨C1.out, ?_⟩
        apply treeF
        · simp only [pickOps, List.filterMap_cons, List.filterMap_nil, List.getElem?_toArray, List.getElem?_cons_zero, List.getElem?_cons_succ]
          go_wp2_with fail
          refine (A10.out _).mono ?_
          rintro en w' ⟨rfl, rfl⟩
          go_wp2_with fail
          refine ⟨C1.out, ?_⟩
          apply treeP (by simp)
          · intro w'
            (simp only [wpPl, pickOps, List.filterMap_cons, List.filterMap_nil, List.getElem?_toArray, List.getElem?_cons_zero, List.getElem?_cons_succ]; iterate 1 (go_wp2; refine ⟨trivial, ?_⟩)); rfl
          apply treeS
          apply sigK
          simp only [pickOps, List.filterMap_cons, List.filterMap_nil, List.getElem?_toArray, List.getElem?_cons_zero, List.getElem?_cons_succ]
          go_wp2_with fail
          refine ⟨C1.out.alloc _, ?_⟩
          apply sigN
          simp only [pickOps, List.filterMap_cons, List.filterMap_nil, List.getElem?_toArray, List.getElem?_cons_zero, List.getElem?_cons_succ]
          refine wpList_store_row rfl 32 (.tmp 3) (.tmp 17) rfl (w1.heap.size) rfl (Edu.mk 1 ⟨#[]⟩ s ⟨#[]⟩ ⟨#[]⟩ false false 0 0 t9 t10).arr rfl 32 zarr (blk_new w1 _) (by kernel_rfl) rfl (arr_one _) ?_
          intro w5 hb5 hc5 hs5
          have C5 : Hid (Chg NoM W w5) := (C1.out.alloc _).thenAll hc5 (fun i o h => by rw [h.1]; exact lo)
          obtain ⟨ob, hob, lo2⟩ : ∃ ob, ob = (w1.heap.size) ∧ W.heap.size ≤ ob := ⟨_, rfl, lo⟩
          clear lo
          have lo := lo2
          clear lo2
          rw [← hob] at hb5 ⊢
          have HF5 := Lib.hid hb5
          clear hob hb5 hc5 hs5
          go_wp2_with fail
          apply sigEnd
          have nob : ob ≠ w.heap.size := by omega
          have nob1 : ob ≠ w.heap.size + 1 := by omega
          have k0 := blk_cell HF5.out 0
          have y7 := blk_cell (C5.out.blkNo BE.out) 7
          go_wp2_with fail
          refine (RS.out _).mono ?_
          rintro en w6 ⟨s1, rfl, hc6, -⟩
          have C6 := Lib.hid (C5.out.trans hc6)
          have HF6 := Lib.hid (hc6.blkNo HF5.out)
          have k1 := blk_cell HF6.out 1
          have f1 := blk_free HF6.out 1
          clear hc6 k0 y7
          have C6s : Hid (Chg NoM W (w6.setCell ⟨ob, 1, none⟩ (.string s1))) := C6.out.setNew lo
          have HF6s : Hid ((w6.setCell ⟨ob, 1, none⟩ (.string s1)).heap[ob]? = some (.cells (Edu.mk 1 s1 s ⟨#[]⟩ ⟨#[]⟩ false false 0 0 t9 t10).arr 32 (0, 0))) := blk_set HF6.out 1 _
          have BE6 := Lib.hid (C6s.out.blkNo BE.out)
          go_wp2_with fail
          generalize w6.setCell ⟨ob, 1, none⟩ (.string s1) = V at C6s HF6s BE6 ⊢
          clear k1 f1 HF6 C6
          refine wp_region_sig 9 (fun w' => Chg NoM V w') [.P [0, 3], .L [1, 2, 4], .K 5, .P [6], .K 7, .P [8], .N [9]] rfl (fun _ _ d _ _ h => by cases d <;> exact h) (fun _ h => h) (by kernel_rfl) ((Chg.refl _).drew) ?_
          apply sigP (Nat.le_refl _)
          · intro w'
            (simp only [wpPl, pickOps, List.filterMap_cons, List.filterMap_nil, List.getElem?_toArray, List.getElem?_cons_zero, List.getElem?_cons_succ]; iterate 2 (go_wp2; refine ⟨trivial, ?_⟩)); rfl
          apply sigL (by simp)
          · intro w' hS
            have y3 := blk_cell (hS.blkNo BE6.out) 3
            have y9 := blk_cell (hS.blkNo BE6.out) 9
            (simp only [wpPl, pickOps, List.filterMap_cons, List.filterMap_nil, List.getElem?_toArray, List.getElem?_cons_zero, List.getElem?_cons_succ]; iterate 3 (go_wp2; refine ⟨trivial, ?_⟩)); rfl
          apply sigK
          simp only [pickOps, List.filterMap_cons, List.filterMap_nil, List.getElem?_toArray, List.getElem?_cons_zero, List.getElem?_cons_succ]
          go_wp2_with fail
          refine (A99.out _).mono ?_
          rintro en w' ⟨rfl, rfl⟩
          go_wp2_with fail
          refine ⟨(Chg.refl V).drew, ?_⟩
          apply sigP (by simp)
          · intro w'
            (simp only [wpPl, pickOps, List.filterMap_cons, List.filterMap_nil, List.getElem?_toArray, List.getElem?_cons_zero, List.getElem?_cons_succ]; iterate 1 (go_wp2; refine ⟨trivial, ?_⟩)); rfl
          apply sigK
          simp only [pickOps, List.filterMap_cons, List.filterMap_nil, List.getElem?_toArray, List.getElem?_cons_zero, List.getElem?_cons_succ]
          go_wp2_with fail
          refine (ES.out _).mono ?_
          rintro en w7 ⟨s3, rfl, hc7, -⟩
          have c7 : Chg NoM V w7 := (Chg.refl V).drew.trans hc7
          have C7 := Lib.hid (C6s.out.trans c7)
          have HF7 := Lib.hid (c7.blkNo HF6s.out)
          clear hc7 HF6s C6s BE6
          go_wp2_with fail
          refine ⟨c7, ?_⟩
          apply sigP (by simp)
          · intro w'
            (simp only [wpPl, pickOps, List.filterMap_cons, List.filterMap_nil, List.getElem?_toArray, List.getElem?_cons_zero, List.getElem?_cons_succ]; iterate 1 (go_wp2; refine ⟨trivial, ?_⟩)); rfl
          apply sigN
          simp only [pickOps, List.filterMap_cons, List.filterMap_nil, List.getElem?_toArray, List.getElem?_cons_zero, List.getElem?_cons_succ]
          have k3 := blk_cell HF7.out 3
          have f3 := blk_free HF7.out 3
          have C8 : Hid (Chg NoM W (w7.setCell ⟨ob, 3, none⟩ (.string s3))) := C7.out.setNew lo
          have HF8 : Hid ((w7.setCell ⟨ob, 3, none⟩ (.string s3)).heap[ob]? = some (.cells (Edu.mk 1 s1 s s3 ⟨#[]⟩ false false 0 0 t9 t10).arr 32 (0, 0))) := blk_set HF7.out 3 _
          have BE8 := Lib.hid (C8.out.blkNo BE.out)
          go_wp2_with fail
          apply sigEnd
          clear k3 f3 HF7 C7 c7
          generalize w7.setCell ⟨ob, 3, none⟩ (.string s3) = V8 at C8 HF8 BE8 ⊢
          have y4 := blk_cell BE8.out 4
          go_wp2_with fail
          refine (TS.out _).mono ?_
          rintro en w9 ⟨s4, rfl, hc9, -⟩
          have C9 := Lib.hid (C8.out.trans hc9)
          have HF9 := Lib.hid (hc9.blkNo HF8.out)
          clear hc9 HF8 C8 BE8 y4
          have k4 := blk_cell HF9.out 4
          have f4 := blk_free HF9.out 4
          have C10 : Hid (Chg NoM W (w9.setCell ⟨ob, 4, none⟩ (.string s4))) := C9.out.setNew lo
          have HF10 : Hid ((w9.setCell ⟨ob, 4, none⟩ (.string s4)).heap[ob]? = some (.cells (Edu.mk 1 s1 s s3 s4 false false 0 0 t9 t10).arr 32 (0, 0))) := blk_set HF9.out 4 _
          have BE10 := Lib.hid (C10.out.blkNo BE.out)
          have y5 := blk_cell BE10.out 5
          have k5 := blk_cell HF10.out 5
          have f5 := blk_free HF10.out 5
          have C11 : Hid (Chg NoM W ((w9.setCell ⟨ob, 4, none⟩ (.string s4)).setCell ⟨ob, 5, none⟩ (.bool e5))) := C10.out.setNew lo
          have HF11 : Hid (((w9.setCell ⟨ob, 4, none⟩ (.string s4)).setCell ⟨ob, 5, none⟩ (.bool e5)).heap[ob]? = some (.cells (Edu.mk 1 s1 s s3 s4 e5 false 0 0 t9 t10).arr 32 (0, 0))) := blk_set HF10.out 5 _
          have BZ11 : Hid (((w9.setCell ⟨ob, 4, none⟩ (.string s4)).setCell ⟨ob, 5, none⟩ (.bool e5)).heap[w.heap.size + 1]? = some (.cells zarr 32 (0, 0))) := Lib.hid (C11.out.blkNo BZ.out)
          clear BE10 C10
          go_wp2_with (first
            | (refine wpList_load_row rfl 32 (.tmp 3) rfl ob rfl 32 (Edu.mk 1 s1 s s3 s4 e5 false 0 0 t9 t10).arr (0, 0) _ HF11.out Try.underlying32 rfl (by kernel_rfl) ?_)
            | (refine wpList_store_row rfl 32 (.tmp 2) (.tmp 63) rfl (w.heap.size + 1) rfl (Edu.mk 1 s1 s s3 s4 e5 false 0 0 t9 t10).arr rfl 32 zarr BZ11.out (by kernel_rfl) rfl (arr_one _) ?_))
          intro w12 hb12 hc12 hs12
          have C12 : Hid (Chg NoM w w12) := (CW.out.trans C11.out).thenAll hc12 (fun i o h => by rw [h.1]; omega)
          have hb : ∀ j, j < 11 → w12.cell? ⟨w.heap.size + 1, j, none⟩ = (Edu.mk 1 s1 s s3 s4 e5 false 0 0 t9 t10).arr[j]? := fun j _ => blk_cell hb12 j
          have z_0 := hb 0 (by omega)
          have z_1 := hb 1 (by omega)
          have z_2 := hb 2 (by omega)
          have z_3 := hb 3 (by omega)
          have z_4 := hb 4 (by omega)
          have z_5 := hb 5 (by omega)
          have z_6 := hb 6 (by omega)
          have z_7 := hb 7 (by omega)
          have z_8 := hb 8 (by omega)
          have z_9 := hb 9 (by omega)
          have z_10 := hb 10 (by omega)
          simp only [Edu.arr, Edu.cells, List.getElem?_cons_zero, List.getElem?_cons_succ, List.getElem?_toArray, Nat.add_zero] at z_0 z_1 z_2 z_3 z_4 z_5 z_6 z_7 z_8 z_9 z_10
          clear hb hb12 hc12 hs12 k4 f4 HF9 C9 y5 k5 f5 HF10 HF11 C11 BZ11 BE BZ HF5 CW C5
          go_wp2_with fail
          exact bodyPost_ret (v := (Edu.mk 1 s1 s s3 s4 e5 false 0 0 t9 t10).agg) (by simp [results, Try.results23, go_sem, z_0, z_1, z_2, z_3, z_4, z_5, z_6, z_7, z_8, z_9, z_10]) rfl ⟨_, rfl, C12.out⟩
        · simp only [pickOps, List.filterMap_cons, List.filterMap_nil, List.getElem?_toArray, List.getElem?_cons_zero, List.getElem?_cons_succ]
          go_wp2_with fail
          refine ⟨C1.out.alloc _, ?_⟩
          apply treeS
          apply sigK
          simp only [pickOps, List.filterMap_cons, List.filterMap_nil, List.getElem?_toArray, List.getElem?_cons_zero, List.getElem?_cons_succ]
          go_wp2_with fail
          refine (A10.out _).mono ?_
          rintro en w' ⟨rfl, rfl⟩
          go_wp2_with fail
          refine ⟨C1.out.alloc _, ?_⟩
          apply sigP (by simp)
          · intro w'
            (simp only [wpPl, pickOps, List.filterMap_cons, List.filterMap_nil, List.getElem?_toArray, List.getElem?_cons_zero, List.getElem?_cons_succ]; iterate 1 (go_wp2; refine ⟨trivial, ?_⟩)); rfl
          apply sigN
          simp only [pickOps, List.filterMap_cons, List.filterMap_nil, List.getElem?_toArray, List.getElem?_cons_zero, List.getElem?_cons_succ]
          refine wpList_store_row rfl 32 (.tmp 3) (.tmp 17) rfl (w1.heap.size) rfl (Edu.mk 1 ⟨#[]⟩ s ⟨#[]⟩ ⟨#[]⟩ false false 0 0 t9 t10).arr rfl 32 zarr (blk_new w1 _) (by kernel_rfl) rfl (arr_one _) ?_
          intro w5 hb5 hc5 hs5
          have C5 : Hid (Chg NoM W w5) := (C1.out.alloc _).thenAll hc5 (fun i o h => by rw [h.1]; exact lo)
          obtain ⟨ob, hob, lo2⟩ : ∃ ob, ob = (w1.heap.size) ∧ W.heap.size ≤ ob := ⟨_, rfl, lo⟩
          clear lo
          have lo := lo2
          clear lo2
          rw [← hob] at hb5 ⊢
          have HF5 := Lib.hid hb5
          clear hob hb5 hc5 hs5
          go_wp2_with fail
          apply sigEnd
          have nob : ob ≠ w.heap.size := by omega
          have nob1 : ob ≠ w.heap.size + 1 := by omega
          have k0 := blk_cell HF5.out 0
          have y7 := blk_cell (C5.out.blkNo BE.out) 7
          go_wp2_with fail
          refine (RS.out _).mono ?_
          rintro en w6 ⟨s1, rfl, hc6, -⟩
          have C6 := Lib.hid (C5.out.trans hc6)
          have HF6 := Lib.hid (hc6.blkNo HF5.out)
          have k1 := blk_cell HF6.out 1
          have f1 := blk_free HF6.out 1
          clear hc6 k0 y7
          have C6s : Hid (Chg NoM W (w6.setCell ⟨ob, 1, none⟩ (.string s1))) := C6.out.setNew lo
          have HF6s : Hid ((w6.setCell ⟨ob, 1, none⟩ (.string s1)).heap[ob]? = some (.cells (Edu.mk 1 s1 s ⟨#[]⟩ ⟨#[]⟩ false false 0 0 t9 t10).arr 32 (0, 0))) := blk_set HF6.out 1 _
          have BE6 := Lib.hid (C6s.out.blkNo BE.out)
          go_wp2_with fail
          generalize w6.setCell ⟨ob, 1, none⟩ (.string s1) = V at C6s HF6s BE6 ⊢
          clear k1 f1 HF6 C6
          refine wp_region_sig 9 (fun w' => Chg NoM V w') [.P [0, 3], .L [1, 2, 4], .K 5, .P [6], .K 7, .P [8], .N [9]] rfl (fun _ _ d _ _ h => by cases d <;> exact h) (fun _ h => h) (by kernel_rfl) ((Chg.refl _).drew) ?_
          apply sigP (Nat.le_refl _)
          · intro w'
            (simp only [wpPl, pickOps, List.filterMap_cons, List.filterMap_nil, List.getElem?_toArray, List.getElem?_cons_zero, List.getElem?_cons_succ]; iterate 2 (go_wp2; refine ⟨trivial, ?_⟩)); rfl
          apply sigL (by simp)
          · intro w' hS
            have y3 := blk_cell (hS.blkNo BE6.out) 3
            have y9 := blk_cell (hS.blkNo BE6.out) 9
            (simp only [wpPl, pickOps, List.filterMap_cons, List.filterMap_nil, List.getElem?_toArray, List.getElem?_cons_zero, List.getElem?_cons_succ]; iterate 3 (go_wp2; refine ⟨trivial, ?_⟩)); rfl
          apply sigK
          simp only [pickOps, List.filterMap_cons, List.filterMap_nil, List.getElem?_toArray, List.getElem?_cons_zero, List.getElem?_cons_succ]
          go_wp2_with fail
          refine (A99.out _).mono ?_
          rintro en w' ⟨rfl, rfl⟩
          go_wp2_with fail
          refine ⟨(Chg.refl V).drew, ?_⟩
          apply sigP (by simp)
          · intro w'
            (simp only [wpPl, pickOps, List.filterMap_cons, List.filterMap_nil, List.getElem?_toArray, List.getElem?_cons_zero, List.getElem?_cons_succ]; iterate 1 (go_wp2; refine ⟨trivial, ?_⟩)); rfl
          apply sigK
          simp only [pickOps, List.filterMap_cons, List.filterMap_nil, List.getElem?_toArray, List.getElem?_cons_zero, List.getElem?_cons_succ]
          go_wp2_with fail
          refine (ES.out _).mono ?_
          rintro en w7 ⟨s3, rfl, hc7, -⟩
          have c7 : Chg NoM V w7 := (Chg.refl V).drew.trans hc7
          have C7 := Lib.hid (C6s.out.trans c7)
          have HF7 := Lib.hid (c7.blkNo HF6s.out)
          clear hc7 HF6s C6s BE6
          go_wp2_with fail
          refine ⟨c7, ?_⟩
          apply sigP (by simp)
          · intro w'
            (simp only [wpPl, pickOps, List.filterMap_cons, List.filterMap_nil, List.getElem?_toArray, List.getElem?_cons_zero, List.getElem?_cons_succ]; iterate 1 (go_wp2; refine ⟨trivial, ?_⟩)); rfl
          apply sigN
          simp only [pickOps, List.filterMap_cons, List.filterMap_nil, List.getElem?_toArray, List.getElem?_cons_zero, List.getElem?_cons_succ]
          have k3 := blk_cell HF7.out 3
          have f3 := blk_free HF7.out 3
          have C8 : Hid (Chg NoM W (w7.setCell ⟨ob, 3, none⟩ (.string s3))) := C7.out.setNew lo
          have HF8 : Hid ((w7.setCell ⟨ob, 3, none⟩ (.string s3)).heap[ob]? = some (.cells (Edu.mk 1 s1 s s3 ⟨#[]⟩ false false 0 0 t9 t10).arr 32 (0, 0))) := blk_set HF7.out 3 _
          have BE8 := Lib.hid (C8.out.blkNo BE.out)
          go_wp2_with fail
          apply sigEnd
          clear k3 f3 HF7 C7 c7
          generalize w7.setCell ⟨ob, 3, none⟩ (.string s3) = V8 at C8 HF8 BE8 ⊢
          have y4 := blk_cell BE8.out 4
          go_wp2_with fail
          refine (TS.out _).mono ?_
          rintro en w9 ⟨s4, rfl, hc9, -⟩
          have C9 := Lib.hid (C8.out.trans hc9)
          have HF9 := Lib.hid (hc9.blkNo HF8.out)
          clear hc9 HF8 C8 BE8 y4
          have k4 := blk_cell HF9.out 4
          have f4 := blk_free HF9.out 4
          have C10 : Hid (Chg NoM W (w9.setCell ⟨ob, 4, none⟩ (.string s4))) := C9.out.setNew lo
          have HF10 : Hid ((w9.setCell ⟨ob, 4, none⟩ (.string s4)).heap[ob]? = some (.cells (Edu.mk 1 s1 s s3 s4 false false 0 0 t9 t10).arr 32 (0, 0))) := blk_set HF9.out 4 _
          have BE10 := Lib.hid (C10.out.blkNo BE.out)
          have y5 := blk_cell BE10.out 5
          have k5 := blk_cell HF10.out 5
          have f5 := blk_free HF10.out 5
          have C11 : Hid (Chg NoM W ((w9.setCell ⟨ob, 4, none⟩ (.string s4)).setCell ⟨ob, 5, none⟩ (.bool e5))) := C10.out.setNew lo
          have HF11 : Hid (((w9.setCell ⟨ob, 4, none⟩ (.string s4)).setCell ⟨ob, 5, none⟩ (.bool e5)).heap[ob]? = some (.cells (Edu.mk 1 s1 s s3 s4 e5 false 0 0 t9 t10).arr 32 (0, 0))) := blk_set HF10.out 5 _
          have BZ11 : Hid (((w9.setCell ⟨ob, 4, none⟩ (.string s4)).setCell ⟨ob, 5, none⟩ (.bool e5)).heap[w.heap.size + 1]? = some (.cells zarr 32 (0, 0))) := Lib.hid (C11.out.blkNo BZ.out)
          clear BE10 C10
          go_wp2_with (first
            | (refine wpList_load_row rfl 32 (.tmp 3) rfl ob rfl 32 (Edu.mk 1 s1 s s3 s4 e5 false 0 0 t9 t10).arr (0, 0) _ HF11.out Try.underlying32 rfl (by kernel_rfl) ?_)
            | (refine wpList_store_row rfl 32 (.tmp 2) (.tmp 63) rfl (w.heap.size + 1) rfl (Edu.mk 1 s1 s s3 s4 e5 false 0 0 t9 t10).arr rfl 32 zarr BZ11.out (by kernel_rfl) rfl (arr_one _) ?_))
          intro w12 hb12 hc12 hs12
          have C12 : Hid (Chg NoM w w12) := (CW.out.trans C11.out).thenAll hc12 (fun i o h => by rw [h.1]; omega)
          have hb : ∀ j, j < 11 → w12.cell? ⟨w.heap.size + 1, j, none⟩ = (Edu.mk 1 s1 s s3 s4 e5 false 0 0 t9 t10).arr[j]? := fun j _ => blk_cell hb12 j
          have z_0 := hb 0 (by omega)
          have z_1 := hb 1 (by omega)
          have z_2 := hb 2 (by omega)
          have z_3 := hb 3 (by omega)
          have z_4 := hb 4 (by omega)
          have z_5 := hb 5 (by omega)
          have z_6 := hb 6 (by omega)
          have z_7 := hb 7 (by omega)
          have z_8 := hb 8 (by omega)
          have z_9 := hb 9 (by omega)
          have z_10 := hb 10 (by omega)
          simp only [Edu.arr, Edu.cells, List.getElem?_cons_zero, List.getElem?_cons_succ, List.getElem?_toArray, Nat.add_zero] at z_0 z_1 z_2 z_3 z_4 z_5 z_6 z_7 z_8 z_9 z_10
          clear hb hb12 hc12 hs12 k4 f4 HF9 C9 y5 k5 f5 HF10 HF11 C11 BZ11 BE BZ HF5 CW C5
          go_wp2_with fail
          exact bodyPost_ret (v := (Edu.mk 1 s1 s s3 s4 e5 false 0 0 t9 t10).agg) (by simp [results, Try.results23, go_sem, z_0, z_1, z_2, z_3, z_4, z_5, z_6, z_7, z_8, z_9, z_10]) rfl ⟨_, rfl, C12.out⟩
      · simp only [pickOps, List.filterMap_cons, List.filterMap_nil, List.getElem?_toArray, List.getElem?_cons_zero, List.getElem?_cons_succ]
        go_wp2_with fail
        refine ⟨C1.out.alloc _, ?_⟩
        apply treeS
        apply sigK
        simp only [pickOps, List.filterMap_cons, List.filterMap_nil, List.getElem?_toArray, List.getElem?_cons_zero, List.getElem?_cons_succ]
        go_wp2_with fail
        refine (A9.out _).mono ?_
        rintro en w' ⟨rfl, rfl⟩
        go_wp2_with fail
        refine ⟨C1.out.alloc _, ?_⟩
        apply sigK
        simp only [pickOps, List.filterMap_cons, List.filterMap_nil, List.getElem?_toArray, List.getElem?_cons_zero, List.getElem?_cons_succ]
        go_wp2_with fail
        refine (A10.out _).mono ?_
        rintro en w' ⟨rfl, rfl⟩
        go_wp2_with fail
        refine ⟨C1.out.alloc _, ?_⟩
        apply sigP (by simp)
        · intro w'
          (simp only [wpPl, pickOps, List.filterMap_cons, List.filterMap_nil, List.getElem?_toArray, List.getElem?_cons_zero, List.getElem?_cons_succ]; iterate 1 (go_wp2; refine ⟨trivial, ?_⟩)); rfl
        apply sigN
        simp only [pickOps, List.filterMap_cons, List.filterMap_nil, List.getElem?_toArray, List.getElem?_cons_zero, List.getElem?_cons_succ]
        refine wpList_store_row rfl 32 (.tmp 3) (.tmp 17) rfl (w1.heap.size) rfl (Edu.mk 1 ⟨#[]⟩ s ⟨#[]⟩ ⟨#[]⟩ false false 0 0 t9 t10).arr rfl 32 zarr (blk_new w1 _) (by kernel_rfl) rfl (arr_one _) ?_
        intro w5 hb5 hc5 hs5
        have C5 : Hid (Chg NoM W w5) := (C1.out.alloc _).thenAll hc5 (fun i o h => by rw [h.1]; exact lo)
        obtain ⟨ob, hob, lo2⟩ : ∃ ob, ob = (w1.heap.size) ∧ W.heap.size ≤ ob := ⟨_, rfl, lo⟩
        clear lo
        have lo := lo2
        clear lo2
        rw [← hob] at hb5 ⊢
        have HF5 := Lib.hid hb5
        clear hob hb5 hc5 hs5
        go_wp2_with fail
        apply sigEnd
        have nob : ob ≠ w.heap.size := by omega
        have nob1 : ob ≠ w.heap.size + 1 := by omega
        have k0 := blk_cell HF5.out 0
        have y7 := blk_cell (C5.out.blkNo BE.out) 7
        go_wp2_with fail
        refine (RS.out _).mono ?_
        rintro en w6 ⟨s1, rfl, hc6, -⟩
        have C6 := Lib.hid (C5.out.trans hc6)
        have HF6 := Lib.hid (hc6.blkNo HF5.out)
        have k1 := blk_cell HF6.out 1
        have f1 := blk_free HF6.out 1
        clear hc6 k0 y7
        have C6s : Hid (Chg NoM W (w6.setCell ⟨ob, 1, none⟩ (.string s1))) := C6.out.setNew lo
        have HF6s : Hid ((w6.setCell ⟨ob, 1, none⟩ (.string s1)).heap[ob]? = some (.cells (Edu.mk 1 s1 s ⟨#[]⟩ ⟨#[]⟩ false false 0 0 t9 t10).arr 32 (0, 0))) := blk_set HF6.out 1 _
        have BE6 := Lib.hid (C6s.out.blkNo BE.out)
        go_wp2_with fail
        generalize w6.setCell ⟨ob, 1, none⟩ (.string s1) = V at C6s HF6s BE6 ⊢
        clear k1 f1 HF6 C6
        refine wp_region_sig 9 (fun w' => Chg NoM V w') [.P [0, 3], .L [1, 2, 4], .K 5, .P [6], .K 7, .P [8], .N [9]] rfl (fun _ _ d _ _ h => by cases d <;> exact h) (fun _ h => h) (by kernel_rfl) ((Chg.refl _).drew) ?_
        apply sigP (Nat.le_refl _)
        · intro w'
          (simp only [wpPl, pickOps, List.filterMap_cons, List.filterMap_nil, List.getElem?_toArray, List.getElem?_cons_zero, List.getElem?_cons_succ]; iterate 2 (go_wp2; refine ⟨trivial, ?_⟩)); rfl
        apply sigL (by simp)
        · intro w' hS
          have y3 := blk_cell (hS.blkNo BE6.out) 3
          have y9 := blk_cell (hS.blkNo BE6.out) 9
          (simp only [wpPl, pickOps, List.filterMap_cons, List.filterMap_nil, List.getElem?_toArray, List.getElem?_cons_zero, List.getElem?_cons_succ]; iterate 3 (go_wp2; refine ⟨trivial, ?_⟩)); rfl
        apply sigK
        simp only [pickOps, List.filterMap_cons, List.filterMap_nil, List.getElem?_toArray, List.getElem?_cons_zero, List.getElem?_cons_succ]
        go_wp2_with fail
        refine (A99.out _).mono ?_
        rintro en w' ⟨rfl, rfl⟩
        go_wp2_with fail
        refine ⟨(Chg.refl V).drew, ?_⟩
        apply sigP (by simp)
        · intro w'
          (simp only [wpPl, pickOps, List.filterMap_cons, List.filterMap_nil, List.getElem?_toArray, List.getElem?_cons_zero, List.getElem?_cons_succ]; iterate 1 (go_wp2; refine ⟨trivial, ?_⟩)); rfl
        apply sigK
        simp only [pickOps, List.filterMap_cons, List.filterMap_nil, List.getElem?_toArray, List.getElem?_cons_zero, List.getElem?_cons_succ]
        go_wp2_with fail
        refine (ES.out _).mono ?_
        rintro en w7 ⟨s3, rfl, hc7, -⟩
        have c7 : Chg NoM V w7 := (Chg.refl V).drew.trans hc7
        have C7 := Lib.hid (C6s.out.trans c7)
        have HF7 := Lib.hid (c7.blkNo HF6s.out)
        clear hc7 HF6s C6s BE6
        go_wp2_with fail
        refine ⟨c7, ?_⟩
        apply sigP (by simp)
        · intro w'
          (simp only [wpPl, pickOps, List.filterMap_cons, List.filterMap_nil, List.getElem?_toArray, List.getElem?_cons_zero, List.getElem?_cons_succ]; iterate 1 (go_wp2; refine ⟨trivial, ?_⟩)); rfl
        apply sigN
        simp only [pickOps, List.filterMap_cons, List.filterMap_nil, List.getElem?_toArray, List.getElem?_cons_zero, List.getElem?_cons_succ]
        have k3 := blk_cell HF7.out 3
        have f3 := blk_free HF7.out 3
        have C8 : Hid (Chg NoM W (w7.setCell ⟨ob, 3, none⟩ (.string s3))) := C7.out.setNew lo
        have HF8 : Hid ((w7.setCell ⟨ob, 3, none⟩ (.string s3)).heap[ob]? = some (.cells (Edu.mk 1 s1 s s3 ⟨#[]⟩ false false 0 0 t9 t10).arr 32 (0, 0))) := blk_set HF7.out 3 _
        have BE8 := Lib.hid (C8.out.blkNo BE.out)
        go_wp2_with fail
        apply sigEnd
        clear k3 f3 HF7 C7 c7
        generalize w7.setCell ⟨ob, 3, none⟩ (.string s3) = V8 at C8 HF8 BE8 ⊢
        have y4 := blk_cell BE8.out 4
        go_wp2_with fail
        refine (TS.out _).mono ?_
        rintro en w9 ⟨s4, rfl, hc9, -⟩
        have C9 := Lib.hid (C8.out.trans hc9)
        have HF9 := Lib.hid (hc9.blkNo HF8.out)
        clear hc9 HF8 C8 BE8 y4
        have k4 := blk_cell HF9.out 4
        have f4 := blk_free HF9.out 4
        have C10 : Hid (Chg NoM W (w9.setCell ⟨ob, 4, none⟩ (.string s4))) := C9.out.setNew lo
        have HF10 : Hid ((w9.setCell ⟨ob, 4, none⟩ (.string s4)).heap[ob]? = some (.cells (Edu.mk 1 s1 s s3 s4 false false 0 0 t9 t10).arr 32 (0, 0))) := blk_set HF9.out 4 _
        have BE10 := Lib.hid (C10.out.blkNo BE.out)
        have y5 := blk_cell BE10.out 5
        have k5 := blk_cell HF10.out 5
        have f5 := blk_free HF10.out 5
        have C11 : Hid (Chg NoM W ((w9.setCell ⟨ob, 4, none⟩ (.string s4)).setCell ⟨ob, 5, none⟩ (.bool e5))) := C10.out.setNew lo
        have HF11 : Hid (((w9.setCell ⟨ob, 4, none⟩ (.string s4)).setCell ⟨ob, 5, none⟩ (.bool e5)).heap[ob]? = some (.cells (Edu.mk 1 s1 s s3 s4 e5 false 0 0 t9 t10).arr 32 (0, 0))) := blk_set HF10.out 5 _
        have BZ11 : Hid (((w9.setCell ⟨ob, 4, none⟩ (.string s4)).setCell ⟨ob, 5, none⟩ (.bool e5)).heap[w.heap.size + 1]? = some (.cells zarr 32 (0, 0))) := Lib.hid (C11.out.blkNo BZ.out)
        clear BE10 C10
        go_wp2_with (first
          | (refine wpList_load_row rfl 32 (.tmp 3) rfl ob rfl 32 (Edu.mk 1 s1 s s3 s4 e5 false 0 0 t9 t10).arr (0, 0) _ HF11.out Try.underlying32 rfl (by kernel_rfl) ?_)
          | (refine wpList_store_row rfl 32 (.tmp 2) (.tmp 63) rfl (w.heap.size + 1) rfl (Edu.mk 1 s1 s s3 s4 e5 false 0 0 t9 t10).arr rfl 32 zarr BZ11.out (by kernel_rfl) rfl (arr_one _) ?_))
        intro w12 hb12 hc12 hs12
        have C12 : Hid (Chg NoM w w12) := (CW.out.trans C11.out).thenAll hc12 (fun i o h => by rw [h.1]; omega)
        have hb : ∀ j, j < 11 → w12.cell? ⟨w.heap.size + 1, j, none⟩ = (Edu.mk 1 s1 s s3 s4 e5 false 0 0 t9 t10).arr[j]? := fun j _ => blk_cell hb12 j
        have z_0 := hb 0 (by omega)
        have z_1 := hb 1 (by omega)
        have z_2 := hb 2 (by omega)
        have z_3 := hb 3 (by omega)
        have z_4 := hb 4 (by omega)
        have z_5 := hb 5 (by omega)
        have z_6 := hb 6 (by omega)
        have z_7 := hb 7 (by omega)
        have z_8 := hb 8 (by omega)
        have z_9 := hb 9 (by omega)
        have z_10 := hb 10 (by omega)
        simp only [Edu.arr, Edu.cells, List.getElem?_cons_zero, List.getElem?_cons_succ, List.getElem?_toArray, Nat.add_zero] at z_0 z_1 z_2 z_3 z_4 z_5 z_6 z_7 z_8 z_9 z_10
        clear hb hb12 hc12 hs12 k4 f4 HF9 C9 y5 k5 f5 HF10 HF11 C11 BZ11 BE BZ HF5 CW C5
        go_wp2_with fail
        exact bodyPost_ret (v := (Edu.mk 1 s1 s s3 s4 e5 false 0 0 t9 t10).agg) (by simp [results, Try.results23, go_sem, z_0, z_1, z_2, z_3, z_4, z_5, z_6, z_7, z_8, z_9, z_10]) rfl ⟨_, rfl, C12.out⟩
    · simp only [pickOps, List.filterMap_cons, List.filterMap_nil, List.getElem?_toArray, List.getElem?_cons_zero, List.getElem?_cons_succ]
      go_wp2_with fail
      refine ⟨(Chg.refl W).drew.alloc _, ?_⟩
      apply treeS
      apply sigK
      simp only [pickOps, List.filterMap_cons, List.filterMap_nil, List.getElem?_toArray, List.getElem?_cons_zero, List.getElem?_cons_succ]
      go_wp2_with fail
      refine (US.out _).mono ?_
      rintro en w1 ⟨s, rfl, hc1, -⟩
      have C1 : Hid (Chg NoM W w1) := ((Chg.refl W).drew.alloc _).trans hc1
      have bo : w1.heap[W.heap.size]? = some (.cells zarr 32 (0, 0)) := hc1.blkNo (blk_new W.drew _)
      have BO := Lib.hid bo
      have lo : W.heap.size ≤ W.heap.size := Nat.le_refl _
      clear hc1 bo
      go_wp2_with fail
      refine ⟨C1.out, ?_⟩
      apply sigK
      simp only [pickOps, List.filterMap_cons, List.filterMap_nil, List.getElem?_toArray, List.getElem?_cons_zero, List.getElem?_cons_succ]
      go_wp2_with fail
      refine (A9.out _).mono ?_
      rintro en w' ⟨rfl, rfl⟩
      go_wp2_with fail
      refine ⟨C1.out, ?_⟩
      apply sigK
      simp only [pickOps, List.filterMap_cons, List.filterMap_nil, List.getElem?_toArray, List.getElem?_cons_zero, List.getElem?_cons_succ]
      go_wp2_with fail
      refine (A10.out _).mono ?_
      rintro en w' ⟨rfl, rfl⟩
      go_wp2_with fail
      refine ⟨C1.out, ?_⟩
      apply sigP (by simp)
      · intro w'
        (simp only [wpPl, pickOps, List.filterMap_cons, List.filterMap_nil, List.getElem?_toArray, List.getElem?_cons_zero, List.getElem?_cons_succ]; iterate 1 (go_wp2; refine ⟨trivial, ?_⟩)); rfl
      apply sigN
      simp only [pickOps, List.filterMap_cons, List.filterMap_nil, List.getElem?_toArray, List.getElem?_cons_zero, List.getElem?_cons_succ]
      refine wpList_store_row rfl 32 (.tmp 3) (.tmp 17) rfl (W.heap.size) rfl (Edu.mk 1 ⟨#[]⟩ s ⟨#[]⟩ ⟨#[]⟩ false false 0 0 t9 t10).arr rfl 32 zarr (BO.out) (by kernel_rfl) rfl (arr_one _) ?_
      intro w5 hb5 hc5 hs5
      have C5 : Hid (Chg NoM W w5) := (C1.out).thenAll hc5 (fun i o h => by rw [h.1]; exact lo)
      obtain ⟨ob, hob, lo2⟩ : ∃ ob, ob = (W.heap.size) ∧ W.heap.size ≤ ob := ⟨_, rfl, lo⟩
      clear lo
      have lo := lo2
      clear lo2
      rw [← hob] at hb5 ⊢
      have HF5 := Lib.hid hb5
      clear hob hb5 hc5 hs5
      go_wp2_with fail
      apply sigEnd
      have nob : ob ≠ w.heap.size := by omega
      have nob1 : ob ≠ w.heap.size + 1 := by omega
      have k0 := blk_cell HF5.out 0
      have y7 := blk_cell (C5.out.blkNo BE.out) 7
      go_wp2_with fail
      refine (RS.out _).mono ?_
      rintro en w6 ⟨s1, rfl, hc6, -⟩
      have C6 := Lib.hid (C5.out.trans hc6)
      have HF6 := Lib.hid (hc6.blkNo HF5.out)
      have k1 := blk_cell HF6.out 1
      have f1 := blk_free HF6.out 1
      clear hc6 k0 y7
      have C6s : Hid (Chg NoM W (w6.setCell ⟨ob, 1, none⟩ (.string s1))) := C6.out.setNew lo
      have HF6s : Hid ((w6.setCell ⟨ob, 1, none⟩ (.string s1)).heap[ob]? = some (.cells (Edu.mk 1 s1 s ⟨#[]⟩ ⟨#[]⟩ false false 0 0 t9 t10).arr 32 (0, 0))) := blk_set HF6.out 1 _
      have BE6 := Lib.hid (C6s.out.blkNo BE.out)
      go_wp2_with fail
      generalize w6.setCell ⟨ob, 1, none⟩ (.string s1) = V at C6s HF6s BE6 ⊢
      clear k1 f1 HF6 C6
      refine wp_region_sig 9 (fun w' => Chg NoM V w') [.P [0, 3], .L [1, 2, 4], .K 5, .P [6], .K 7, .P [8], .N [9]] rfl (fun _ _ d _ _ h => by cases d <;> exact h) (fun _ h => h) (by kernel_rfl) ((Chg.refl _).drew) ?_
      apply sigP (Nat.le_refl _)
      · intro w'
        (simp only [wpPl, pickOps, List.filterMap_cons, List.filterMap_nil, List.getElem?_toArray, List.getElem?_cons_zero, List.getElem?_cons_succ]; iterate 2 (go_wp2; refine ⟨trivial, ?_⟩)); rfl
      apply sigL (by simp)
      · intro w' hS
        have y3 := blk_cell (hS.blkNo BE6.out) 3
        have y9 := blk_cell (hS.blkNo BE6.out) 9
        (simp only [wpPl, pickOps, List.filterMap_cons, List.filterMap_nil, List.getElem?_toArray, List.getElem?_cons_zero, List.getElem?_cons_succ]; iterate 3 (go_wp2; refine ⟨trivial, ?_⟩)); rfl
      apply sigK
      simp only [pickOps, List.filterMap_cons, List.filterMap_nil, List.getElem?_toArray, List.getElem?_cons_zero, List.getElem?_cons_succ]
      go_wp2_with fail
      refine (A99.out _).mono ?_
      rintro en w' ⟨rfl, rfl⟩
      go_wp2_with fail
      refine ⟨(Chg.refl V).drew, ?_⟩
      apply sigP (by simp)
      · intro w'
        (simp only [wpPl, pickOps, List.filterMap_cons, List.filterMap_nil, List.getElem?_toArray, List.getElem?_cons_zero, List.getElem?_cons_succ]; iterate 1 (go_wp2; refine ⟨trivial, ?_⟩)); rfl
      apply sigK
      simp only [pickOps, List.filterMap_cons, List.filterMap_nil, List.getElem?_toArray, List.getElem?_cons_zero, List.getElem?_cons_succ]
      go_wp2_with fail
      refine (ES.out _).mono ?_
      rintro en w7 ⟨s3, rfl, hc7, -⟩
      have c7 : Chg NoM V w7 := (Chg.refl V).drew.trans hc7
      have C7 := Lib.hid (C6s.out.trans c7)
      have HF7 := Lib.hid (c7.blkNo HF6s.out)
      clear hc7 HF6s C6s BE6
      go_wp2_with fail
      refine ⟨c7, ?_⟩
      apply sigP (by simp)
      · intro w'
        (simp only [wpPl, pickOps, List.filterMap_cons, List.filterMap_nil, List.getElem?_toArray, List.getElem?_cons_zero, List.getElem?_cons_succ]; iterate 1 (go_wp2; refine ⟨trivial, ?_⟩)); rfl
      apply sigN
      simp only [pickOps, List.filterMap_cons, List.filterMap_nil, List.getElem?_toArray, List.getElem?_cons_zero, List.getElem?_cons_succ]
      have k3 := blk_cell HF7.out 3
      have f3 := blk_free HF7.out 3
      have C8 : Hid (Chg NoM W (w7.setCell ⟨ob, 3, none⟩ (.string s3))) := C7.out.setNew lo
      have HF8 : Hid ((w7.setCell ⟨ob, 3, none⟩ (.string s3)).heap[ob]? = some (.cells (Edu.mk 1 s1 s s3 ⟨#[]⟩ false false 0 0 t9 t10).arr 32 (0, 0))) := blk_set HF7.out 3 _
      have BE8 := Lib.hid (C8.out.blkNo BE.out)
      go_wp2_with fail
      apply sigEnd
      clear k3 f3 HF7 C7 c7
      generalize w7.setCell ⟨ob, 3, none⟩ (.string s3) = V8 at C8 HF8 BE8 ⊢
      have y4 := blk_cell BE8.out 4
      go_wp2_with fail
      refine (TS.out _).mono ?_
      rintro en w9 ⟨s4, rfl, hc9, -⟩
      have C9 := Lib.hid (C8.out.trans hc9)
      have HF9 := Lib.hid (hc9.blkNo HF8.out)
      clear hc9 HF8 C8 BE8 y4
      have k4 := blk_cell HF9.out 4
      have f4 := blk_free HF9.out 4
      have C10 : Hid (Chg NoM W (w9.setCell ⟨ob, 4, none⟩ (.string s4))) := C9.out.setNew lo
      have HF10 : Hid ((w9.setCell ⟨ob, 4, none⟩ (.string s4)).heap[ob]? = some (.cells (Edu.mk 1 s1 s s3 s4 false false 0 0 t9 t10).arr 32 (0, 0))) := blk_set HF9.out 4 _
      have BE10 := Lib.hid (C10.out.blkNo BE.out)
      have y5 := blk_cell BE10.out 5
      have k5 := blk_cell HF10.out 5
      have f5 := blk_free HF10.out 5
      have C11 : Hid (Chg NoM W ((w9.setCell ⟨ob, 4, none⟩ (.string s4)).setCell ⟨ob, 5, none⟩ (.bool e5))) := C10.out.setNew lo
      have HF11 : Hid (((w9.setCell ⟨ob, 4, none⟩ (.string s4)).setCell ⟨ob, 5, none⟩ (.bool e5)).heap[ob]? = some (.cells (Edu.mk 1 s1 s s3 s4 e5 false 0 0 t9 t10).arr 32 (0, 0))) := blk_set HF10.out 5 _
      have BZ11 : Hid (((w9.setCell ⟨ob, 4, none⟩ (.string s4)).setCell ⟨ob, 5, none⟩ (.bool e5)).heap[w.heap.size + 1]? = some (.cells zarr 32 (0, 0))) := Lib.hid (C11.out.blkNo BZ.out)
      clear BE10 C10
      go_wp2_with (first
        | (refine wpList_load_row rfl 32 (.tmp 3) rfl ob rfl 32 (Edu.mk 1 s1 s s3 s4 e5 false 0 0 t9 t10).arr (0, 0) _ HF11.out Try.underlying32 rfl (by kernel_rfl) ?_)
        | (refine wpList_store_row rfl 32 (.tmp 2) (.tmp 63) rfl (w.heap.size + 1) rfl (Edu.mk 1 s1 s s3 s4 e5 false 0 0 t9 t10).arr rfl 32 zarr BZ11.out (by kernel_rfl) rfl (arr_one _) ?_))
      intro w12 hb12 hc12 hs12
      have C12 : Hid (Chg NoM w w12) := (CW.out.trans C11.out).thenAll hc12 (fun i o h => by rw [h.1]; omega)
      have hb : ∀ j, j < 11 → w12.cell? ⟨w.heap.size + 1, j, none⟩ = (Edu.mk 1 s1 s s3 s4 e5 false 0 0 t9 t10).arr[j]? := fun j _ => blk_cell hb12 j
      have z_0 := hb 0 (by omega)
      have z_1 := hb 1 (by omega)
      have z_2 := hb 2 (by omega)
      have z_3 := hb 3 (by omega)
      have z_4 := hb 4 (by omega)
      have z_5 := hb 5 (by omega)
      have z_6 := hb 6 (by omega)
      have z_7 := hb 7 (by omega)
      have z_8 := hb 8 (by omega)
      have z_9 := hb 9 (by omega)
      have z_10 := hb 10 (by omega)
      simp only [Edu.arr, Edu.cells, List.getElem?_cons_zero, List.getElem?_cons_succ, List.getElem?_toArray, Nat.add_zero] at z_0 z_1 z_2 z_3 z_4 z_5 z_6 z_7 z_8 z_9 z_10
      clear hb hb12 hc12 hs12 k4 f4 HF9 C9 y5 k5 f5 HF10 HF11 C11 BZ11 BE BZ HF5 CW C5
      go_wp2_with fail
      exact bodyPost_ret (v := (Edu.mk 1 s1 s s3 s4 e5 false 0 0 t9 t10).agg) (by simp [results, Try.results23, go_sem, z_0, z_1, z_2, z_3, z_4, z_5, z_6, z_7, z_8, z_9, z_10]) rfl ⟨_, rfl, C12.out⟩
  · simp only [pickOps, List.filterMap_cons, List.filterMap_nil, List.getElem?_toArray, List.getElem?_cons_zero, List.getElem?_cons_succ]
    go_wp2_with fail
    refine ⟨(Chg.refl W).drew.alloc _, ?_⟩
    apply treeS
    apply sigK
    simp only [pickOps, List.filterMap_cons, List.filterMap_nil, List.getElem?_toArray, List.getElem?_cons_zero, List.getElem?_cons_succ]
    go_wp2_with fail
    refine (A0.out _).mono ?_
    rintro en w' ⟨rfl, rfl⟩
    go_wp2_with fail
    refine ⟨(Chg.refl W).drew.alloc _, ?_⟩
    apply sigP (by simp)
    · intro w'
      (simp only [wpPl, pickOps, List.filterMap_cons, List.filterMap_nil, List.getElem?_toArray, List.getElem?_cons_zero, List.getElem?_cons_succ]; iterate 1 (go_wp2; refine ⟨trivial, ?_⟩)); rfl
    apply sigK
    simp only [pickOps, List.filterMap_cons, List.filterMap_nil, List.getElem?_toArray, List.getElem?_cons_zero, List.getElem?_cons_succ]
    go_wp2_with fail
    refine (US.out _).mono ?_
    rintro en w1 ⟨s, rfl, hc1, -⟩
    have C1 : Hid (Chg NoM W w1) := ((Chg.refl W).drew.alloc _).trans hc1
    have bo : w1.heap[W.heap.size]? = some (.cells zarr 32 (0, 0)) := hc1.blkNo (blk_new W.drew _)
    have BO := Lib.hid bo
    have lo : W.heap.size ≤ W.heap.size := Nat.le_refl _
    clear hc1 bo
    go_wp2_with fail
    refine ⟨C1.out, ?_⟩
    apply sigK
    simp only [pickOps, List.filterMap_cons, List.filterMap_nil, List.getElem?_toArray, List.getElem?_cons_zero, List.getElem?_cons_succ]
    go_wp2_with fail
    refine (A9.out _).mono ?_
    rintro en w' ⟨rfl, rfl⟩
    go_wp2_with fail
    refine ⟨C1.out, ?_⟩
    apply sigK
    simp only [pickOps, List.filterMap_cons, List.filterMap_nil, List.getElem?_toArray, List.getElem?_cons_zero, List.getElem?_cons_succ]
    go_wp2_with fail
    refine (A10.out _).mono ?_
    rintro en w' ⟨rfl, rfl⟩
    go_wp2_with fail
    refine ⟨C1.out, ?_⟩
    apply sigP (by simp)
    · intro w'
      (simp only [wpPl, pickOps, List.filterMap_cons, List.filterMap_nil, List.getElem?_toArray, List.getElem?_cons_zero, List.getElem?_cons_succ]; iterate 1 (go_wp2; refine ⟨trivial, ?_⟩)); rfl
    apply sigN
    simp only [pickOps, List.filterMap_cons, List.filterMap_nil, List.getElem?_toArray, List.getElem?_cons_zero, List.getElem?_cons_succ]
    refine wpList_store_row rfl 32 (.tmp 3) (.tmp 17) rfl (W.heap.size) rfl (Edu.mk 1 ⟨#[]⟩ s ⟨#[]⟩ ⟨#[]⟩ false false 0 0 t9 t10).arr rfl 32 zarr (BO.out) (by kernel_rfl) rfl (arr_one _) ?_
    intro w5 hb5 hc5 hs5
    have C5 : Hid (Chg NoM W w5) := (C1.out).thenAll hc5 (fun i o h => by rw [h.1]; exact lo)
    obtain ⟨ob, hob, lo2⟩ : ∃ ob, ob = (W.heap.size) ∧ W.heap.size ≤ ob := ⟨_, rfl, lo⟩
    clear lo
    have lo := lo2
    clear lo2
    rw [← hob] at hb5 ⊢
    have HF5 := Lib.hid hb5
    clear hob hb5 hc5 hs5
    go_wp2_with fail
    apply sigEnd
    have nob : ob ≠ w.heap.size := by omega
    have nob1 : ob ≠ w.heap.size + 1 := by omega
    have k0 := blk_cell HF5.out 0
    have y7 := blk_cell (C5.out.blkNo BE.out) 7
    go_wp2_with fail
    refine (RS.out _).mono ?_
    rintro en w6 ⟨s1, rfl, hc6, -⟩
    have C6 := Lib.hid (C5.out.trans hc6)
    have HF6 := Lib.hid (hc6.blkNo HF5.out)
    have k1 := blk_cell HF6.out 1
    have f1 := blk_free HF6.out 1
    clear hc6 k0 y7
    have C6s : Hid (Chg NoM W (w6.setCell ⟨ob, 1, none⟩ (.string s1))) := C6.out.setNew lo
    have HF6s : Hid ((w6.setCell ⟨ob, 1, none⟩ (.string s1)).heap[ob]? = some (.cells (Edu.mk 1 s1 s ⟨#[]⟩ ⟨#[]⟩ false false 0 0 t9 t10).arr 32 (0, 0))) := blk_set HF6.out 1 _
    have BE6 := Lib.hid (C6s.out.blkNo BE.out)
    go_wp2_with fail
    generalize w6.setCell ⟨ob, 1, none⟩ (.string s1) = V at C6s HF6s BE6 ⊢
    clear k1 f1 HF6 C6
    refine wp_region_sig 9 (fun w' => Chg NoM V w') [.P [0, 3], .L [1, 2, 4], .K 5, .P [6], .K 7, .P [8], .N [9]] rfl (fun _ _ d _ _ h => by cases d <;> exact h) (fun _ h => h) (by kernel_rfl) ((Chg.refl _).drew) ?_
    apply sigP (Nat.le_refl _)
    · intro w'
      (simp only [wpPl, pickOps, List.filterMap_cons, List.filterMap_nil, List.getElem?_toArray, List.getElem?_cons_zero, List.getElem?_cons_succ]; iterate 2 (go_wp2; refine ⟨trivial, ?_⟩)); rfl
    apply sigL (by simp)
    · intro w' hS
      have y3 := blk_cell (hS.blkNo BE6.out) 3
      have y9 := blk_cell (hS.blkNo BE6.out) 9
      (simp only [wpPl, pickOps, List.filterMap_cons, List.filterMap_nil, List.getElem?_toArray, List.getElem?_cons_zero, List.getElem?_cons_succ]; iterate 3 (go_wp2; refine ⟨trivial, ?_⟩)); rfl
    apply sigK
    simp only [pickOps, List.filterMap_cons, List.filterMap_nil, List.getElem?_toArray, List.getElem?_cons_zero, List.getElem?_cons_succ]
    go_wp2_with fail
    refine (A99.out _).mono ?_
    rintro en w' ⟨rfl, rfl⟩
    go_wp2_with fail
    refine ⟨(Chg.refl V).drew, ?_⟩
    apply sigP (by simp)
    · intro w'
      (simp only [wpPl, pickOps, List.filterMap_cons, List.filterMap_nil, List.getElem?_toArray, List.getElem?_cons_zero, List.getElem?_cons_succ]; iterate 1 (go_wp2; refine ⟨trivial, ?_⟩)); rfl
    apply sigK
    simp only [pickOps, List.filterMap_cons, List.filterMap_nil, List.getElem?_toArray, List.getElem?_cons_zero, List.getElem?_cons_succ]
    go_wp2_with fail
    refine (ES.out _).mono ?_
    rintro en w7 ⟨s3, rfl, hc7, -⟩
    have c7 : Chg NoM V w7 := (Chg.refl V).drew.trans hc7
    have C7 := Lib.hid (C6s.out.trans c7)
    have HF7 := Lib.hid (c7.blkNo HF6s.out)
    clear hc7 HF6s C6s BE6
    go_wp2_with fail
    refine ⟨c7, ?_⟩
    apply sigP (by simp)
    · intro w'
      (simp only [wpPl, pickOps, List.filterMap_cons, List.filterMap_nil, List.getElem?_toArray, List.getElem?_cons_zero, List.getElem?_cons_succ]; iterate 1 (go_wp2; refine ⟨trivial, ?_⟩)); rfl
    apply sigN
    simp only [pickOps, List.filterMap_cons, List.filterMap_nil, List.getElem?_toArray, List.getElem?_cons_zero, List.getElem?_cons_succ]
    have k3 := blk_cell HF7.out 3
    have f3 := blk_free HF7.out 3
    have C8 : Hid (Chg NoM W (w7.setCell ⟨ob, 3, none⟩ (.string s3))) := C7.out.setNew lo
    have HF8 : Hid ((w7.setCell ⟨ob, 3, none⟩ (.string s3)).heap[ob]? = some (.cells (Edu.mk 1 s1 s s3 ⟨#[]⟩ false false 0 0 t9 t10).arr 32 (0, 0))) := blk_set HF7.out 3 _
    have BE8 := Lib.hid (C8.out.blkNo BE.out)
    go_wp2_with fail
    apply sigEnd
    clear k3 f3 HF7 C7 c7
    generalize w7.setCell ⟨ob, 3, none⟩ (.string s3) = V8 at C8 HF8 BE8 ⊢
    have y4 := blk_cell BE8.out 4
    go_wp2_with fail
    refine (TS.out _).mono ?_
    rintro en w9 ⟨s4, rfl, hc9, -⟩
    have C9 := Lib.hid (C8.out.trans hc9)
    have HF9 := Lib.hid (hc9.blkNo HF8.out)
    clear hc9 HF8 C8 BE8 y4
    have k4 := blk_cell HF9.out 4
    have f4 := blk_free HF9.out 4
    have C10 : Hid (Chg NoM W (w9.setCell ⟨ob, 4, none⟩ (.string s4))) := C9.out.setNew lo
    have HF10 : Hid ((w9.setCell ⟨ob, 4, none⟩ (.string s4)).heap[ob]? = some (.cells (Edu.mk 1 s1 s s3 s4 false false 0 0 t9 t10).arr 32 (0, 0))) := blk_set HF9.out 4 _
    have BE10 := Lib.hid (C10.out.blkNo BE.out)
    have y5 := blk_cell BE10.out 5
    have k5 := blk_cell HF10.out 5
    have f5 := blk_free HF10.out 5
    have C11 : Hid (Chg NoM W ((w9.setCell ⟨ob, 4, none⟩ (.string s4)).setCell ⟨ob, 5, none⟩ (.bool e5))) := C10.out.setNew lo
    have HF11 : Hid (((w9.setCell ⟨ob, 4, none⟩ (.string s4)).setCell ⟨ob, 5, none⟩ (.bool e5)).heap[ob]? = some (.cells (Edu.mk 1 s1 s s3 s4 e5 false 0 0 t9 t10).arr 32 (0, 0))) := blk_set HF10.out 5 _
    have BZ11 : Hid (((w9.setCell ⟨ob, 4, none⟩ (.string s4)).setCell ⟨ob, 5, none⟩ (.bool e5)).heap[w.heap.size + 1]? = some (.cells zarr 32 (0, 0))) := Lib.hid (C11.out.blkNo BZ.out)
    clear BE10 C10
    go_wp2_with (first
      | (refine wpList_load_row rfl 32 (.tmp 3) rfl ob rfl 32 (Edu.mk 1 s1 s s3 s4 e5 false 0 0 t9 t10).arr (0, 0) _ HF11.out Try.underlying32 rfl (by kernel_rfl) ?_)
      | (refine wpList_store_row rfl 32 (.tmp 2) (.tmp 63) rfl (w.heap.size + 1) rfl (Edu.mk 1 s1 s s3 s4 e5 false 0 0 t9 t10).arr rfl 32 zarr BZ11.out (by kernel_rfl) rfl (arr_one _) ?_))
    intro w12 hb12 hc12 hs12
    have C12 : Hid (Chg NoM w w12) := (CW.out.trans C11.out).thenAll hc12 (fun i o h => by rw [h.1]; omega)
    have hb : ∀ j, j < 11 → w12.cell? ⟨w.heap.size + 1, j, none⟩ = (Edu.mk 1 s1 s s3 s4 e5 false 0 0 t9 t10).arr[j]? := fun j _ => blk_cell hb12 j
    have z_0 := hb 0 (by omega)
    have z_1 := hb 1 (by omega)
    have z_2 := hb 2 (by omega)
    have z_3 := hb 3 (by omega)
    have z_4 := hb 4 (by omega)
    have z_5 := hb 5 (by omega)
    have z_6 := hb 6 (by omega)
    have z_7 := hb 7 (by omega)
    have z_8 := hb 8 (by omega)
    have z_9 := hb 9 (by omega)
    have z_10 := hb 10 (by omega)
    simp only [Edu.arr, Edu.cells, List.getElem?_cons_zero, List.getElem?_cons_succ, List.getElem?_toArray, Nat.add_zero] at z_0 z_1 z_2 z_3 z_4 z_5 z_6 z_7 z_8 z_9 z_10
    clear hb hb12 hc12 hs12 k4 f4 HF9 C9 y5 k5 f5 HF10 HF11 C11 BZ11 BE BZ HF5 CW C5
    go_wp2_with fail
    exact bodyPost_ret (v := (Edu.mk 1 s1 s s3 s4 e5 false 0 0 t9 t10).agg) (by simp [results, Try.results23, go_sem, z_0, z_1, z_2, z_3, z_4, z_5, z_6, z_7, z_8, z_9, z_10]) rfl ⟨_, rfl, C12.out⟩
end Go.Proofs.Ytccppjhkffmnaaa
