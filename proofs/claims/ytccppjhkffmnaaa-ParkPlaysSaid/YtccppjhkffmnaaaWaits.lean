/- Waits, by the existence of its answer. -/
import Derived.Test.YtccppjhkffmnaaaGood2
namespace Go.Proofs.Ytccppjhkffmnaaa
set_option linter.unusedVariables false
set_option linter.unusedSimpArgs false
open Go.RowKit
set_option maxHeartbeats 2000000 in
theorem waits_some (e : Edu) (w : World) (b1 : -9223372036854775808 ≤ e.span) (b2 : e.span ≤ 9223372036854775807) (b3 : -9223372036854775808 ≤ e.state) (b4 : e.state ≤ 9223372036854775807)
    (b5 : -9223372036854775808 ≤ e.tick) (b6 : e.tick ≤ 9223372036854775807) (b7 : -9223372036854775808 ≤ e.stamp) (b8 : e.stamp ≤ 9223372036854775807) (b9 : e.event.size ≤ 9223372036854775807) (b10 : e.thread.size ≤ 9223372036854775807) :
    Calls Try.prog 12 #[e.agg] w fun en w' => ∃ f : Edu, en = .returned f.agg ∧ Chg NoM w w' := by
  obtain ⟨e0, e1, e2, e3, e4, e5, e6, e7, e8, e9, e10⟩ := e
  simp only at b1 b2 b3 b4 b5 b6 b7 b8 b9 b10
  have GS : Hid (∀ V, Calls Try.prog 23 #[(Edu.mk 0 e1 e2 e3 e4 e5 e6 e7 e8 e9 e10).agg] V fun en w' => ∃ f : Edu, en = .returned f.agg ∧ Chg NoM V w') := fun V => good_some (Edu.mk 0 e1 e2 e3 e4 e5 e6 e7 e8 e9 e10) V rfl b1 b2 b3 b4 b5 b6 b7 b8 b9 b10
  have ES := Lib.hid (fun V => event_some e10 V b7 b8)
  clear b1 b2 b3 b4 b5 b6 b7 b8 b9 b10
  unfold Edu.agg
  go_enter Try.func12, Try.ntmps12
  have cW : Chg NoM w ((w.alloc (.cells (Edu.mk 0 e1 e2 e3 e4 e5 e6 e7 e8 e9 e10).arr 32)).alloc (.cells zarr 32)) := ((Chg.refl _).alloc _).alloc _
  have bE : ((w.alloc (.cells (Edu.mk 0 e1 e2 e3 e4 e5 e6 e7 e8 e9 e10).arr 32)).alloc (.cells zarr 32)).heap[w.heap.size]? = some (.cells (Edu.mk 0 e1 e2 e3 e4 e5 e6 e7 e8 e9 e10).arr 32 (0, 0)) := blk_alloc (blk_new w _) _
  have bZ : ((w.alloc (.cells (Edu.mk 0 e1 e2 e3 e4 e5 e6 e7 e8 e9 e10).arr 32)).alloc (.cells zarr 32)).heap[w.heap.size + 1]? = some (.cells zarr 32 (0, 0)) := by
    have h := blk_new (w.alloc (.cells (Edu.mk 0 e1 e2 e3 e4 e5 e6 e7 e8 e9 e10).arr 32)) (.cells zarr 32)
    rwa [show (w.alloc (.cells (Edu.mk 0 e1 e2 e3 e4 e5 e6 e7 e8 e9 e10).arr 32)).heap.size = w.heap.size + 1 by simp] at h
  have CW := Lib.hid cW
  have BE := Lib.hid bE
  have BZ := Lib.hid bZ
  clear cW bE bZ
  go_wp2_with fail
  refine (GS.out _).mono ?_
  rintro en w4 ⟨f, rfl, hc4⟩
  obtain ⟨g0, g1, g2, g3, g4, g5, g6, g7, g8, g9, g10⟩ := f
  have C4 := Lib.hid (CW.out.trans hc4)
  have hsz : ∀ (A B : Obj), ((w.alloc A).alloc B).heap.size = w.heap.size + 2 := by intro A B; simp
  have lo : w.heap.size + 2 ≤ w4.heap.size := by
    have := hc4.size
    rwa [hsz] at this
  have BE4 := Lib.hid (hc4.blkNo BE.out)
  have BZ4 := Lib.hid (hc4.blkNo BZ.out)
  clear hc4 CW BE BZ hsz
  have C5 := Lib.hid (C4.out.alloc (.cells zarr 32))
  have BE5 := Lib.hid (blk_alloc BE4.out (.cells zarr 32))
  have BZ5 := Lib.hid (blk_alloc BZ4.out (.cells zarr 32))
  go_wp2_with (refine wpList_store_row rfl 32 (.tmp 3) (.tmp 6) rfl w4.heap.size rfl (Edu.mk g0 g1 g2 g3 g4 g5 g6 g7 g8 g9 g10).arr rfl 32 zarr (blk_new w4 _) (by kernel_rfl) rfl (arr_one _) ?_)
  intro w5 hb5 hc5 hs5
  have C6 : Hid (Chg NoM w w5) := C5.out.thenAll hc5 (fun i o h => by rw [h.1]; omega)
  have BE6 : Hid (w5.heap[w.heap.size]? = some (.cells (Edu.mk 0 e1 e2 e3 e4 e5 e6 e7 e8 e9 e10).arr 32 (0, 0))) := hc5.block _ _ BE5.out (fun h => by have := h.1; omega)
  have BZ6 : Hid (w5.heap[w.heap.size + 1]? = some (.cells zarr 32 (0, 0))) := hc5.block _ _ BZ5.out (fun h => by have := h.1; omega)
  have HF6 := Lib.hid hb5
  clear hb5 hc5 hs5 C4 C5 BE4 BE5 BZ4 BZ5
  obtain ⟨ob, hob⟩ : ∃ ob, ob = w4.heap.size := ⟨_, rfl⟩
  rw [← hob] at HF6 lo ⊢
  clear hob
  have y10 := blk_cell BE6.out 10
  go_wp2_with fail
  refine (ES.out _).mono ?_
  rintro en w7 ⟨s3, rfl, hc7, -⟩
  have C7 := Lib.hid (C6.out.trans hc7)
  have HF7 := Lib.hid (hc7.blkNo HF6.out)
  have BZ7 := Lib.hid (hc7.blkNo BZ6.out)
  clear y10 hc7 C6 HF6 BZ6 BE6
  have k3 := blk_cell HF7.out 3
  have f3 := blk_free HF7.out 3
  have C8 : Hid (Chg NoM w (w7.setCell ⟨ob, 3, none⟩ (.string s3))) := C7.out.setNew (by show w.heap.size ≤ ob; omega)
  have HF8 : Hid ((w7.setCell ⟨ob, 3, none⟩ (.string s3)).heap[ob]? = some (.cells (Edu.mk g0 g1 g2 s3 g4 g5 g6 g7 g8 g9 g10).arr 32 (0, 0))) := blk_set HF7.out 3 _
  have BZ8 : Hid ((w7.setCell ⟨ob, 3, none⟩ (.string s3)).heap[w.heap.size + 1]? = some (.cells zarr 32 (0, 0))) := blk_set_ne BZ7.out (by show w.heap.size + 1 ≠ ob; omega) _
  go_wp2_with (first
    | (refine wpList_load_row rfl 32 (.tmp 3) rfl ob rfl 32 (Edu.mk g0 g1 g2 s3 g4 g5 g6 g7 g8 g9 g10).arr (0, 0) _ HF8.out Try.underlying32 rfl (by kernel_rfl) ?_)
    | (refine wpList_store_row rfl 32 (.tmp 2) (.tmp 11) rfl (w.heap.size + 1) rfl (Edu.mk g0 g1 g2 s3 g4 g5 g6 g7 g8 g9 g10).arr rfl 32 zarr BZ8.out (by kernel_rfl) rfl (arr_one _) ?_))
  intro w12 hb12 hc12 hs12
  have C12 : Hid (Chg NoM w w12) := C8.out.thenAll hc12 (fun i o h => by rw [h.1]; omega)
  have hb : ∀ j, j < 11 → w12.cell? ⟨w.heap.size + 1, j, none⟩ = (Edu.mk g0 g1 g2 s3 g4 g5 g6 g7 g8 g9 g10).arr[j]? := fun j _ => blk_cell hb12 j
  have z_0 := hb 0 (by omega)
  have z_1 := hb 1 (by omega)
  have z_2 := hb 2 (by omega)
  have z_3 := hb 3 (by omega)
  have z_4 := hb 4 (by omega)
  have z_5 := hb 5 (by omega)
  have z_6 := hb 6 (by omega)
  have z_7 := hb 7 (by omega)
  have z_8 := hb 8 (by omega)
  have z_9 := hb 9 (by omega)
  have z_10 := hb 10 (by omega)
  simp only [Edu.arr, Edu.cells, List.getElem?_cons_zero, List.getElem?_cons_succ, List.getElem?_toArray, Nat.add_zero] at z_0 z_1 z_2 z_3 z_4 z_5 z_6 z_7 z_8 z_9 z_10
  clear hb hb12 hc12 hs12 k3 f3 HF7 C7 C8 HF8 BZ8 BZ7
  go_wp2_with fail
  exact bodyPost_ret (v := (Edu.mk g0 g1 g2 s3 g4 g5 g6 g7 g8 g9 g10).agg) (by simp [results, Try.results12, go_sem, z_0, z_1, z_2, z_3, z_4, z_5, z_6, z_7, z_8, z_9, z_10]) rfl ⟨_, rfl, C12.out⟩
end Go.Proofs.Ytccppjhkffmnaaa
