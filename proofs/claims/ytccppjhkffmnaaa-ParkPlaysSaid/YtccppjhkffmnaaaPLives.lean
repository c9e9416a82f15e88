/- lives (layer 12) returns true. -/
import Derived.Test.YtccppjhkffmnaaaPark2
namespace Go.Proofs.Ytccppjhkffmnaaa
set_option linter.unusedVariables false
set_option linter.unusedSimpArgs false
open Go.RowKit

def ea : Edu := ⟨1, ⟨#[]⟩, ⟨#[]⟩, ⟨#[36, 97]⟩, ⟨#[]⟩, false, false, 0, 0, 0, 0⟩
def eb : Edu := ⟨1, ⟨#[]⟩, ⟨#[]⟩, ⟨#[36, 98]⟩, ⟨#[]⟩, false, false, 0, 0, 0, 0⟩
theorem ea_ne : eb ∉ [ea] := by
  intro h
  simp at h
  have := congrArg Edu.event h
  simp [ea, eb] at this

set_option maxHeartbeats 4000000 in
theorem lives_true (w : World) : Calls Try.prog 10 #[] w fun e w' => e = .returned (.bool true) ∧ Chg NoM w w' := by
  have hg := guard32
  go_enter Try.func10, Try.ntmps10
  go_wp2_with fail
  refine (new_yes 1 w (by omega) (by omega)).mono ?_
  rintro e w1 ⟨rfl, hp1, hs1, hc1⟩
  have P1 := Lib.hid hp1
  have C1 := Lib.hid hc1
  have s1 : w.heap.size < w1.heap.size := by omega
  clear hp1 hs1 hc1
  go_wp2_with (refine wpList_store_row rfl 32 (.tmp 3) (.tmp 18) rfl w1.heap.size rfl ea.arr rfl 32 zarr (blk_new w1 _) (by kernel_rfl) rfl (arr_one ea) ?_)
  intro w2 hb2 hc2 hs2
  have hc2n : Chg NoM w1 w2 := ((Chg.refl w1).alloc _).thenNew (hc2.mono (M' := fun i _ => i = w1.heap.size) (fun i o _ h => h.1)) (Nat.le_refl _)
  have C2 := Lib.hid (C1.out.trans hc2n)
  have P2 := Lib.hid (P1.out.chgNo hc2n)
  have B2 := Lib.hid hb2
  clear hb2 hc2 hs2 hc2n
  go_wp2_with (refine wpList_load_row rfl 32 (.tmp 3) rfl w1.heap.size rfl 32 ea.arr (0, 0) _ B2.out Try.underlying32 rfl (by kernel_rfl) ?_)
  refine (put_room w.heap.size w.heap.size 1 0 [] (.slice none 0 0) ea w2 P2.out (by simp) (by simp) (by omega)).mono ?_
  rintro en w3 ⟨rfl, v3, hp3, ho3, hc3⟩
  have O3 := Lib.hid ho3
  have s2 := lt_of_blk B2.out
  have C3 := Lib.hid (C2.out.thenAll hc3 (ParkX.new P2.out))
  have P3 := Lib.hid hp3
  have B3 : Hid (w3.heap[w1.heap.size]? = some (.cells ea.arr 32 (0, 0))) := hc3.block _ _ B2.out (by
    rintro (h | h)
    · have := h.1; omega
    · have := h.own; simp [Value.ownBlock] at this)
  have s3 := lt_of_blk B3.out
  clear hp3 hc3 ho3
  go_wp2_with (refine wpList_store_row rfl 32 (.tmp 4) (.tmp 23) rfl w3.heap.size rfl zarr rfl 32 zarr (blk_new w3 _) (by kernel_rfl) rfl zarr_one ?_)
  intro w4 hb4 hc4 hs4
  have hc4n : Chg NoM w3 w4 := ((Chg.refl w3).alloc _).thenNew (hc4.mono (M' := fun i _ => i = w3.heap.size) (fun i o _ h => h.1)) (Nat.le_refl _)
  have C4 := Lib.hid (C3.out.trans hc4n)
  have P4 := Lib.hid (P3.out.chgNo hc4n)
  have B4 := Lib.hid (hc4n.blkNo B3.out)
  clear hb4 hc4 hs4 hc4n
  go_wp2_with fail
  refine (put_full w.heap.size w.heap.size 1 0 [ea] v3 eb ea w4 P4.out ea_ne (by simp) (by simp) rfl (by omega) (by omega)).mono ?_
  rintro en w5 ⟨rfl, v5, hp5, -, hc5⟩
  have C5 := Lib.hid (C4.out.thenAll hc5 (ParkX.new P4.out))
  have P5 : Hid (ParkAt w5 w.heap.size w.heap.size 1 [eb] 1 v5) := hp5
  have B5 : Hid (w5.heap[w1.heap.size]? = some (.cells ea.arr 32 (0, 0))) := hc5.block _ _ B4.out (by
    rintro (h | h)
    · have := h.1; omega
    · rcases O3.out _ h.own with h' | h'
      · simp [Value.ownBlock] at h'
      · omega)
  have s5 := lt_of_blk B5.out
  clear hp5 hc5
  go_wp2_with (refine wpList_store_row rfl 32 (.tmp 6) (.tmp 29) rfl w5.heap.size rfl ea.arr rfl 32 zarr (blk_new w5 _) (by kernel_rfl) rfl (arr_one ea) ?_)
  intro w6 hb6 hc6 hs6
  have hc6n : Chg NoM w5 w6 := ((Chg.refl w5).alloc _).thenNew (hc6.mono (M' := fun i _ => i = w5.heap.size) (fun i o _ h => h.1)) (Nat.le_refl _)
  have C6 := Lib.hid (C5.out.trans hc6n)
  have P6 := Lib.hid (P5.out.chgNo hc6n)
  have B6 := Lib.hid (hc6n.blkNo B5.out)
  have D6 := Lib.hid hb6
  have hq := eqlE ea ea
  simp only [decide_true] at hq
  unfold Edu.agg at hq
  have hb : ∀ j, j < 11 → w6.cell? ⟨w5.heap.size, j, none⟩ = ea.arr[j]? := fun j _ => blk_cell hb6 j
  have ha : ∀ j, j < 11 → w6.cell? ⟨w1.heap.size, j, none⟩ = ea.arr[j]? := fun j _ => blk_cell B6.out j
  have x_0 := hb 0 (by omega)
  have x_1 := hb 1 (by omega)
  have x_2 := hb 2 (by omega)
  have x_3 := hb 3 (by omega)
  have x_4 := hb 4 (by omega)
  have x_5 := hb 5 (by omega)
  have x_6 := hb 6 (by omega)
  have x_7 := hb 7 (by omega)
  have x_8 := hb 8 (by omega)
  have x_9 := hb 9 (by omega)
  have x_10 := hb 10 (by omega)
  simp only [Edu.cells, List.getElem?_cons_zero, List.getElem?_cons_succ, List.getElem?_toArray, Nat.add_zero] at x_0 x_1 x_2 x_3 x_4 x_5 x_6 x_7 x_8 x_9 x_10
  have y_0 := ha 0 (by omega)
  have y_1 := ha 1 (by omega)
  have y_2 := ha 2 (by omega)
  have y_3 := ha 3 (by omega)
  have y_4 := ha 4 (by omega)
  have y_5 := ha 5 (by omega)
  have y_6 := ha 6 (by omega)
  have y_7 := ha 7 (by omega)
  have y_8 := ha 8 (by omega)
  have y_9 := ha 9 (by omega)
  have y_10 := ha 10 (by omega)
  simp only [Edu.cells, List.getElem?_cons_zero, List.getElem?_cons_succ, List.getElem?_toArray, Nat.add_zero] at y_0 y_1 y_2 y_3 y_4 y_5 y_6 y_7 y_8 y_9 y_10
  clear hb ha hb6 hc6 hs6 hc6n
  go_wp2_with (first
    | (go_at_call 20; refine (len_any _ _ _ _ _ _ w6 P6.out).mono ?_; rintro e w7 ⟨rfl, rfl⟩)
    | (go_at_call 14; refine (lost_any _ _ _ _ _ _ w6 P6.out).mono ?_; rintro e w7 ⟨rfl, rfl⟩))
  go_ret
  exact ⟨rfl, C6.out⟩
end Go.Proofs.Ytccppjhkffmnaaa
