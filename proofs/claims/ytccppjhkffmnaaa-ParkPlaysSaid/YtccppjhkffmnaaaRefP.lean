/- The reference's Put (concourseref12.Put). -/
import Derived.Test.YtccppjhkffmnaaaPark2
namespace Go.Proofs.Ytccppjhkffmnaaa
set_option linter.unusedVariables false
set_option linter.unusedSimpArgs false
open Go.RowKit
/-- Where the elements of a list lie (only read; an offset may be). -/
def EO (w : World) (A : Option Addr) (l : List Edu) : Prop := 0 < l.length → ∃ g off, A = some ⟨g, off, none⟩ ∧ ∀ j u, (ecells l)[j]? = some u → w.cell? ⟨g, off + j, none⟩ = some u
theorem EO.chgNo {w w' : World} {A : Option Addr} {l : List Edu} (h : EO w A l) (hc : Chg NoM w w') : EO w' A l := by
  intro h0
  obtain ⟨g, off, hA, hcell⟩ := h h0
  exact ⟨g, off, hA, fun j u hu => hc.cellNo (hcell j u hu)⟩
theorem EO.at {w : World} {A : Option Addr} {l : List Edu} (h : EO w A l) (k : Nat) (p : Edu) (hp : l[k]? = some p) :
    ∃ g off, A = some ⟨g, off, none⟩ ∧ ∀ j, j < 11 → w.cell? ⟨g, off + k * 11 + j, none⟩ = p.cells[j]? := by
  have hlt := (List.getElem?_eq_some_iff.1 hp).1
  obtain ⟨g, off, hA, hcell⟩ := h (by omega)
  refine ⟨g, off, hA, fun j hj => ?_⟩
  have hj' : j < p.cells.length := by simp [Edu.cells]; omega
  have := ecells_at l k p hp j hj
  rw [List.getElem?_eq_getElem hj'] at this ⊢
  rw [Nat.add_assoc]
  exact hcell _ _ this
theorem EO.of {w : World} {base c : Nat} {A : Option Addr} {l : List Edu} (h : ERow w base (.slice A l.length c) l) : EO w A l := by
  intro h0
  obtain ⟨ad, hA, hc⟩ := Row.news h (Chg.refl w) h0
  obtain ⟨p, hp⟩ : ∃ p, l[0]? = some p := ⟨_, List.getElem?_eq_getElem h0⟩
  obtain ⟨g, rfl, -, -, -⟩ := ERow.at h hp
  cases hA
  exact ⟨g, 0, rfl, fun j u hu => by
    have h1 := hc j u hu
    have hadd : (⟨g, 0, none⟩ : Addr).add j = ⟨g, j, none⟩ := by unfold Addr.add; split <;> simp_all
    rw [hadd] at h1
    rw [Nat.zero_add]
    exact h1⟩
theorem EO.news {w : World} {A : Option Addr} {l : List Edu} (h : EO w A l) : 0 < l.length → ∃ ad, A = some ad ∧ ∀ j u, (ecells l)[j]? = some u → w.cell? (ad.add j) = some u := by
  intro h0
  obtain ⟨g, off, hA, hc⟩ := h h0
  exact ⟨_, hA, fun j u hu => by
    have h1 := hc j u hu
    have hadd : (⟨g, off, none⟩ : Addr).add j = ⟨g, off + j, none⟩ := by unfold Addr.add; split <;> simp_all
    rw [hadd]
    exact h1⟩
theorem EO.chg {M : Nat → Obj → Prop} {w w' : World} {A : Option Addr} {l : List Edu} (h : EO w A l) (hc : Chg M w w') (hm : ∀ g off o, A = some ⟨g, off, none⟩ → w.heap[g]? = some o → ¬ M g o) : EO w' A l := by
  intro h0
  obtain ⟨g, off, hA, hcell⟩ := h h0
  exact ⟨g, off, hA, fun j u hu => hc.cell (hcell j u hu) (fun o ho => hm g off o hA ho)⟩
set_option maxHeartbeats 2000000 in
theorem rput_has (A : Option Addr) (c : Nat) (most lost : Int) (l : List Edu) (e : Edu) (w : World) (hl : EO w A l) (hn : l.length ≤ 1000) (he : e ∈ l) :
    Calls Try.prog 16 #[.agg #[.int .i64 most, .slice A l.length c, .int .i64 lost], e.agg] w fun en w' => en = .returned (.tuple #[.agg #[.int .i64 most, .slice A l.length c, .int .i64 lost], .agg zarr, .bool false]) ∧ Chg NoM w w' := by
  have HEM := Lib.hid he
  clear he
  have HL := Lib.hid hl
  have hg := guard32
  clear hl
  unfold Edu.agg
  go_enter Try.func16, Try.ntmps16
  go_wp2_with fail
  have h4 : ∀ (a b c d : Obj), Chg NoM w ((((w.alloc a).alloc b).alloc c).alloc d) ∧ ((((w.alloc a).alloc b).alloc c).alloc d).heap[w.heap.size]? = some a ∧ ((((w.alloc a).alloc b).alloc c).alloc d).heap[w.heap.size + 1]? = some b ∧
      ((((w.alloc a).alloc b).alloc c).alloc d).heap[w.heap.size + 2]? = some c ∧ ((((w.alloc a).alloc b).alloc c).alloc d).heap[w.heap.size + 3]? = some d := by
    intro a b c d
    refine ⟨((((Chg.refl w).alloc _).alloc _).alloc _).alloc _, blk_alloc (blk_alloc (blk_alloc (blk_new w a) b) c) d, ?_, ?_, ?_⟩
    · have h := blk_alloc (blk_alloc (blk_new (w.alloc a) b) c) d
      rwa [show (w.alloc a).heap.size = w.heap.size + 1 by simp] at h
    · have h := blk_alloc (blk_new ((w.alloc a).alloc b) c) d
      rwa [show ((w.alloc a).alloc b).heap.size = w.heap.size + 2 by simp] at h
    · have h := blk_new (((w.alloc a).alloc b).alloc c) d
      rwa [show (((w.alloc a).alloc b).alloc c).heap.size = w.heap.size + 3 by simp] at h
  obtain ⟨c0, b0, b1, b2, b3⟩ := h4 (.cells #[.int .i64 most, .slice A l.length c, .int .i64 lost] 41) (.cells e.cells.toArray 32) (.cells #[.int .i64 0, .slice none 0 0, .int .i64 0] 41) (.cells zarr 32)
  have C0 := Lib.hid c0
  have B0 := Lib.hid b0
  have B1 := Lib.hid b1
  have B2 := Lib.hid b2
  have B3 := Lib.hid b3
  clear c0 b0 b1 b2 b3 h4
  go_loopw [7] (fun i wr => ∃ k : Nat, k ≤ l.length ∧ i = .int .i64 k ∧ Hid (∀ x ∈ l.take k, x ≠ e) ∧ Hid (Chg NoM ((((w.alloc (.cells #[.int .i64 most, .slice A l.length c, .int .i64 lost] 41)).alloc (.cells e.cells.toArray 32)).alloc (.cells #[.int .i64 0, .slice none 0 0, .int .i64 0] 41)).alloc (.cells zarr 32)) wr)) (fun i _ => l.length - (intOf i).toNat)
  case' atStart => exact ⟨0, by omega, rfl, (fun x hx => by simp at hx), Chg.refl _⟩
  obtain ⟨k, hk, rfl, HT, D⟩ := hrel
  have y1 := blk_cell (D.out.blkNo B0.out) 1
  by_cases hlt : k < l.length
  · skip
    obtain ⟨p, hp⟩ : ∃ p, l[k]? = some p := ⟨_, List.getElem?_eq_getElem hlt⟩
    obtain ⟨g, off, rfl, hc⟩ := (HL.out.chgNo (C0.out.trans D.out)).at k p hp
    have HP := Lib.hid hp
    have x_0 := hc 0 (by omega)
    have x_1 := hc 1 (by omega)
    have x_2 := hc 2 (by omega)
    have x_3 := hc 3 (by omega)
    have x_4 := hc 4 (by omega)
    have x_5 := hc 5 (by omega)
    have x_6 := hc 6 (by omega)
    have x_7 := hc 7 (by omega)
    have x_8 := hc 8 (by omega)
    have x_9 := hc 9 (by omega)
    have x_10 := hc 10 (by omega)
    simp only [Edu.cells, List.getElem?_cons_zero, List.getElem?_cons_succ, List.getElem?_toArray, Nat.add_zero] at x_0 x_1 x_2 x_3 x_4 x_5 x_6 x_7 x_8 x_9 x_10
    have hb : ∀ j, j < 11 → wr.cell? ⟨w.heap.size + 1, j, none⟩ = e.cells[j]? := fun j hj => by rw [blk_cell (D.out.blkNo B1.out)]; simp
    have y_0 := hb 0 (by omega)
    have y_1 := hb 1 (by omega)
    have y_2 := hb 2 (by omega)
    have y_3 := hb 3 (by omega)
    have y_4 := hb 4 (by omega)
    have y_5 := hb 5 (by omega)
    have y_6 := hb 6 (by omega)
    have y_7 := hb 7 (by omega)
    have y_8 := hb 8 (by omega)
    have y_9 := hb 9 (by omega)
    have y_10 := hb 10 (by omega)
    simp only [Edu.cells, List.getElem?_cons_zero, List.getElem?_cons_succ, List.getElem?_toArray, Nat.add_zero] at y_0 y_1 y_2 y_3 y_4 y_5 y_6 y_7 y_8 y_9 y_10
    have hq := eqlE p e
    have i0 : (0 : Int) ≤ (k : Int) := by omega
    have i1 : (k : Int) < (l.length : Int) := by omega
    unfold Edu.agg at hq
    clear hc hb hp
    by_cases hep : p = e
    · rw [decide_eq_true hep] at hq
      clear hep
      go_wp2_with fail
      go_quiet (fail)
      have B0D := Lib.hid (D.out.blkNo B0.out)
      have B2D := Lib.hid (D.out.blkNo B2.out)
      have B3D := Lib.hid (D.out.blkNo B3.out)
      go_wp2_with (first
        | (refine wpList_load_row rfl 41 (.tmp 2) rfl w.heap.size rfl 41 #[.int .i64 most, .slice (some ⟨g, off, none⟩) l.length c, .int .i64 lost] (0, 0) _ B0D.out Try.underlying41 rfl (by kernel_rfl) ?_)
        | (refine wpList_store_row rfl 41 (.tmp 4) (.tmp 23) rfl (w.heap.size + 2) rfl #[.int .i64 most, .slice (some ⟨g, off, none⟩) l.length c, .int .i64 lost] rfl 41 #[.int .i64 0, .slice none 0 0, .int .i64 0] B2D.out (by kernel_rfl) rfl (by simp [Value.oneCell']) ?_))
      intro w5 hb5 hc5 hs5
      have b35 := Lib.hid (hc5.block _ _ B3D.out (BoxM.ne (by decide)))
      have D5 : Hid (Chg NoM w w5) := (C0.out.trans (D.out.drewN nq)).thenAll hc5 (fun i o h => by rw [h.1]; omega)
      have B25 := Lib.hid hb5
      clear hb5 hc5 hs5
      go_wp2_with (refine wpList_store_row rfl 32 (.tmp 5) (.tmp 24) rfl (w.heap.size + 3) rfl zarr rfl 32 zarr b35.out (by kernel_rfl) rfl zarr_one ?_)
      intro w6 hb6 hc6 hs6
      have b26 := hc6.block _ _ B25.out (BoxM.ne (by decide))
      have D6 : Hid (Chg NoM w w6) := D5.out.thenAll hc6 (fun i o h => by rw [h.1]; omega)
      have hb : ∀ j, j < 11 → w6.cell? ⟨w.heap.size + 3, j, none⟩ = zarr[j]? := fun j _ => blk_cell hb6 j
      have z_0 := hb 0 (by omega)
      have z_1 := hb 1 (by omega)
      have z_2 := hb 2 (by omega)
      have z_3 := hb 3 (by omega)
      have z_4 := hb 4 (by omega)
      have z_5 := hb 5 (by omega)
      have z_6 := hb 6 (by omega)
      have z_7 := hb 7 (by omega)
      have z_8 := hb 8 (by omega)
      have z_9 := hb 9 (by omega)
      have z_10 := hb 10 (by omega)
      simp only [Edu.cells, List.getElem?_cons_zero, List.getElem?_cons_succ, List.getElem?_toArray, Nat.add_zero] at z_0 z_1 z_2 z_3 z_4 z_5 z_6 z_7 z_8 z_9 z_10
      have u0 := blk_cell b26 0
      have u1 := blk_cell b26 1
      have u2 := blk_cell b26 2
      clear hb hb6 hc6 hs6 b26
      go_wp2_with fail
      exact bodyPost_ret (v := .tuple #[.agg #[.int .i64 most, .slice (some ⟨g, off, none⟩) l.length c, .int .i64 lost], .agg zarr, .bool false]) (by simp [results, Try.results16, go_sem, u0, u1, u2, z_0, z_1, z_2, z_3, z_4, z_5, z_6, z_7, z_8, z_9, z_10]) rfl ⟨rfl, D6.out⟩
    · skip
      have HE := Lib.hid hep
      rw [decide_eq_false hep] at hq
      clear hep
      go_wp2_with fail
      go_quiet (fail)
      go_wp2_with fail
      refine ⟨⟨k + 1, by omega, by go_num, fun y hy => ?_, D.out.drewN _⟩, by simp [intOf]; omega⟩
      rw [List.take_succ_eq_append_getElem hlt] at hy
      rcases List.mem_append.1 hy with h | h
      · exact HT.out y h
      · simp at h
        rw [h, (List.getElem?_eq_some_iff.1 HP.out).2]
        exact HE.out
  · exfalso
    obtain rfl : k = l.length := by omega
    rw [List.take_length] at HT
    exact HT.out e HEM.out rfl
set_option maxHeartbeats 2000000 in
theorem rput_room (A : Option Addr) (c : Nat) (most lost : Int) (l : List Edu) (e : Edu) (w : World) (hl : EO w A l) (hn : l.length ≤ 1000) (he : e ∉ l) (hlt0 : (l.length : Int) < most) :
    Calls Try.prog 16 #[.agg #[.int .i64 most, .slice A l.length c, .int .i64 lost], e.agg] w fun en w' => ∃ A' c', en = .returned (.tuple #[.agg #[.int .i64 most, .slice A' (l.length + 1) c', .int .i64 lost], .agg zarr, .bool false]) ∧ EO w' A' (l ++ [e]) ∧ (∀ g off x, A' = some ⟨g, off, x⟩ → w.heap.size ≤ g ∧ g < w'.heap.size) ∧ Chg NoM w w' := by
  have HEM := Lib.hid he
  clear he
  have HL := Lib.hid hl
  have hg := guard32
  clear hl
  unfold Edu.agg
  go_enter Try.func16, Try.ntmps16
  go_wp2_with fail
  have h4 : ∀ (a b c d : Obj), Chg NoM w ((((w.alloc a).alloc b).alloc c).alloc d) ∧ ((((w.alloc a).alloc b).alloc c).alloc d).heap[w.heap.size]? = some a ∧ ((((w.alloc a).alloc b).alloc c).alloc d).heap[w.heap.size + 1]? = some b ∧
      ((((w.alloc a).alloc b).alloc c).alloc d).heap[w.heap.size + 2]? = some c ∧ ((((w.alloc a).alloc b).alloc c).alloc d).heap[w.heap.size + 3]? = some d := by
    intro a b c d
    refine ⟨((((Chg.refl w).alloc _).alloc _).alloc _).alloc _, blk_alloc (blk_alloc (blk_alloc (blk_new w a) b) c) d, ?_, ?_, ?_⟩
    · have h := blk_alloc (blk_alloc (blk_new (w.alloc a) b) c) d
      rwa [show (w.alloc a).heap.size = w.heap.size + 1 by simp] at h
    · have h := blk_alloc (blk_new ((w.alloc a).alloc b) c) d
      rwa [show ((w.alloc a).alloc b).heap.size = w.heap.size + 2 by simp] at h
    · have h := blk_new (((w.alloc a).alloc b).alloc c) d
      rwa [show (((w.alloc a).alloc b).alloc c).heap.size = w.heap.size + 3 by simp] at h
  obtain ⟨c0, b0, b1, b2, b3⟩ := h4 (.cells #[.int .i64 most, .slice A l.length c, .int .i64 lost] 41) (.cells e.cells.toArray 32) (.cells #[.int .i64 0, .slice none 0 0, .int .i64 0] 41) (.cells zarr 32)
  have C0 := Lib.hid c0
  have B0 := Lib.hid b0
  have B1 := Lib.hid b1
  have B2 := Lib.hid b2
  have B3 := Lib.hid b3
  clear c0 b0 b1 b2 b3 h4
  go_loopw [7] (fun i wr => ∃ k : Nat, k ≤ l.length ∧ i = .int .i64 k ∧ Hid (∀ x ∈ l.take k, x ≠ e) ∧ Hid (Chg NoM ((((w.alloc (.cells #[.int .i64 most, .slice A l.length c, .int .i64 lost] 41)).alloc (.cells e.cells.toArray 32)).alloc (.cells #[.int .i64 0, .slice none 0 0, .int .i64 0] 41)).alloc (.cells zarr 32)) wr)) (fun i _ => l.length - (intOf i).toNat)
  case' atStart => exact ⟨0, by omega, rfl, (fun x hx => by simp at hx), Chg.refl _⟩
  obtain ⟨k, hk, rfl, HT, D⟩ := hrel
  have y1 := blk_cell (D.out.blkNo B0.out) 1
  by_cases hlt : k < l.length
  · skip
    obtain ⟨p, hp⟩ : ∃ p, l[k]? = some p := ⟨_, List.getElem?_eq_getElem hlt⟩
    obtain ⟨g, off, rfl, hc⟩ := (HL.out.chgNo (C0.out.trans D.out)).at k p hp
    have HP := Lib.hid hp
    have x_0 := hc 0 (by omega)
    have x_1 := hc 1 (by omega)
    have x_2 := hc 2 (by omega)
    have x_3 := hc 3 (by omega)
    have x_4 := hc 4 (by omega)
    have x_5 := hc 5 (by omega)
    have x_6 := hc 6 (by omega)
    have x_7 := hc 7 (by omega)
    have x_8 := hc 8 (by omega)
    have x_9 := hc 9 (by omega)
    have x_10 := hc 10 (by omega)
    simp only [Edu.cells, List.getElem?_cons_zero, List.getElem?_cons_succ, List.getElem?_toArray, Nat.add_zero] at x_0 x_1 x_2 x_3 x_4 x_5 x_6 x_7 x_8 x_9 x_10
    have hb : ∀ j, j < 11 → wr.cell? ⟨w.heap.size + 1, j, none⟩ = e.cells[j]? := fun j hj => by rw [blk_cell (D.out.blkNo B1.out)]; simp
    have y_0 := hb 0 (by omega)
    have y_1 := hb 1 (by omega)
    have y_2 := hb 2 (by omega)
    have y_3 := hb 3 (by omega)
    have y_4 := hb 4 (by omega)
    have y_5 := hb 5 (by omega)
    have y_6 := hb 6 (by omega)
    have y_7 := hb 7 (by omega)
    have y_8 := hb 8 (by omega)
    have y_9 := hb 9 (by omega)
    have y_10 := hb 10 (by omega)
    simp only [Edu.cells, List.getElem?_cons_zero, List.getElem?_cons_succ, List.getElem?_toArray, Nat.add_zero] at y_0 y_1 y_2 y_3 y_4 y_5 y_6 y_7 y_8 y_9 y_10
    have hq := eqlE p e
    have i0 : (0 : Int) ≤ (k : Int) := by omega
    have i1 : (k : Int) < (l.length : Int) := by omega
    unfold Edu.agg at hq
    clear hc hb hp
    by_cases hep : p = e
    · exact absurd (hep ▸ List.mem_of_getElem? HP.out) HEM.out
    · skip
      have HE := Lib.hid hep
      rw [decide_eq_false hep] at hq
      clear hep
      go_wp2_with fail
      go_quiet (fail)
      go_wp2_with fail
      refine ⟨⟨k + 1, by omega, by go_num, fun y hy => ?_, D.out.drewN _⟩, by simp [intOf]; omega⟩
      rw [List.take_succ_eq_append_getElem hlt] at hy
      rcases List.mem_append.1 hy with h | h
      · exact HT.out y h
      · simp at h
        rw [h, (List.getElem?_eq_some_iff.1 HP.out).2]
        exact HE.out
  · skip
    obtain rfl : k = l.length := by omega
    have hlD := HL.out.chgNo (C0.out.trans D.out)
    have HLD := Lib.hid hlD
    clear hlD HT hk
    go_wp2_with (refine wpList_append_Row _ rfl (.tmp 25) (.tmp 27) 30 rfl w.heap.size 32 _ 11 112 Try.underlying30 Try.info32 rfl (by omega) (.slice none 0 0) 0 [] rfl (Row.nil _ _ _ _) A l.length c (ecells l) rfl (ecells_len l) HLD.out.news (ecells_cell l) (by omega) (by omega) (C0.out.trans D.out).size ?_)
    intro v2 w2 R
    have hr2 := R.row
    rw [Nat.zero_add, List.nil_append] at hr2
    have ch2 : Chg NoM wr w2 := R.chg.mono (fun i o _ h => by have := h.1; simp [Value.ownBlock] at this)
    have D2 := Lib.hid (D.out.trans ch2)
    have own2 : Hid (∀ g, v2.ownBlock = some g → wr.heap.size ≤ g) := by
      intro g hg
      rcases R.own with h | h
      · rw [h] at hg; simp [Value.ownBlock] at hg
      · rw [h] at hg; simp at hg; omega
    obtain ⟨A2, c2, rfl, hc2a, hc2b⟩ := hr2.slice
    have R2 := Lib.hid hr2
    have H2 := Lib.hid ch2.size
    clear R hr2 ch2 y1
    have hb : ∀ j, j < 11 → w2.cell? ⟨w.heap.size + 1, j, none⟩ = e.cells[j]? := fun j hj => by rw [blk_cell (D2.out.blkNo B1.out)]; simp
    have y_0 := hb 0 (by omega)
    have y_1 := hb 1 (by omega)
    have y_2 := hb 2 (by omega)
    have y_3 := hb 3 (by omega)
    have y_4 := hb 4 (by omega)
    have y_5 := hb 5 (by omega)
    have y_6 := hb 6 (by omega)
    have y_7 := hb 7 (by omega)
    have y_8 := hb 8 (by omega)
    have y_9 := hb 9 (by omega)
    have y_10 := hb 10 (by omega)
    simp only [Edu.cells, List.getElem?_cons_zero, List.getElem?_cons_succ, List.getElem?_toArray, Nat.add_zero] at y_0 y_1 y_2 y_3 y_4 y_5 y_6 y_7 y_8 y_9 y_10
    clear hb
    go_wp2_with (refine wpList_append_Row _ rfl (.tmp 29) (.tmp 31) 30 rfl w.heap.size 32 _ 11 112 Try.underlying30 Try.info32 rfl (by omega) (.slice A2 l.length c2) l.length (ecells l) rfl ?c0 (some ⟨w2.heap.size, 0, none⟩) 1 1 (ecells [e]) rfl rfl ?c1 ?c2 ?c3 ?c4 ?c5 ?_)
    case c0 => exact Row.chg R2.out ((Chg.refl (M := NoM) w2).alloc _) (fun _ _ _ _ _ h => h)
    case c1 => exact fun _ => ⟨_, rfl, news_blk (blk_new w2 _)⟩
    case c2 => exact ecells_cell _
    case c3 => omega
    case c4 => omega
    case c5 => exact ((C0.out.trans D2.out).alloc _).size
    intro v3 w3 R
    have hr3 := R.row
    rw [← ecells_append] at hr3
    have hR3 : ERow w3 w.heap.size v3 (l ++ [e]) := by unfold ERow; rw [List.length_append]; exact hr3
    obtain ⟨A3, c3, rfl, hc3a, hc3b⟩ := hr3.slice
    have s1 : w.heap.size + 4 ≤ wr.heap.size := by have := D.out.size; simp at this; omega
    have s2 : wr.heap.size ≤ w2.heap.size := H2.out
    have own2' : ∀ g, (Value.slice A2 l.length c2).ownBlock = some g → wr.heap.size ≤ g := own2.out
    have own3 : Hid (∀ g, (Value.slice A3 (l.length + 1) c3).ownBlock = some g → wr.heap.size ≤ g) := by
      intro g hg
      rcases R.own with h | h
      · rw [h] at hg; exact own2' g hg
      · rw [h] at hg; simp at hg; omega
    have C3 : Hid (Chg NoM w w3) := ((C0.out.trans D2.out).alloc _).thenAll R.chg (fun i o h => by have := own2' i h.1; omega)
    have b03 : Hid (w3.heap[w.heap.size]? = some (.cells #[.int .i64 most, .slice A l.length c, .int .i64 lost] 41 (0, 0))) := R.chg.block _ _ (blk_alloc (D2.out.blkNo B0.out) _) (RowM.ne (by decide))
    have b23 : Hid (w3.heap[w.heap.size + 2]? = some (.cells #[.int .i64 0, .slice none 0 0, .int .i64 0] 41 (0, 0))) := R.chg.block _ _ (blk_alloc (D2.out.blkNo B2.out) _) (RowM.ne (by decide))
    have b33 : Hid (w3.heap[w.heap.size + 3]? = some (.cells zarr 32 (0, 0))) := R.chg.block _ _ (blk_alloc (D2.out.blkNo B3.out) _) (fun h => by have := own2' _ h.1; omega)
    have R3 := Lib.hid hR3
    have S3 := Lib.hid s1
    clear R hr3 hR3 own2' s1 s2 y_0 y_1 y_2 y_3 y_4 y_5 y_6 y_7 y_8 y_9 y_10
    have x0 := blk_cell b03.out 0
    have x1 := blk_cell b03.out 1
    have x2 := blk_cell b03.out 2
    have hle : ¬ ((l.length : Int) + 1 > most) := by omega
    go_wp2_with (first
      | (refine wpList_store_row rfl 41 (.tmp 4) (.tmp 54) rfl (w.heap.size + 2) rfl #[.int .i64 most, .slice A3 (l.length + 1) c3, .int .i64 lost] rfl 41 #[.int .i64 0, .slice none 0 0, .int .i64 0] b23.out (by kernel_rfl) rfl (by simp [Value.oneCell']) ?_))
    intro w5 hb5 hc5 hs5
    have b35 := Lib.hid (hc5.block _ _ b33.out (BoxM.ne (by decide)))
    have R5 := Lib.hid (Row.chg R3.out hc5 (fun g c f _ _ => BoxM.ne (by decide)))
    have D5 : Hid (Chg NoM w w5) := C3.out.thenAll hc5 (fun i o h => by rw [h.1]; omega)
    have B25 := Lib.hid hb5
    clear hb5 hc5 hs5
    go_wp2_with (refine wpList_store_row rfl 32 (.tmp 5) (.tmp 55) rfl (w.heap.size + 3) rfl zarr rfl 32 zarr b35.out (by kernel_rfl) rfl zarr_one ?_)
    intro w6 hb6 hc6 hs6
    have b26 := hc6.block _ _ B25.out (BoxM.ne (by decide))
    have D6 : Hid (Chg NoM w w6) := D5.out.thenAll hc6 (fun i o h => by rw [h.1]; omega)
    have R6 : Hid (ERow w6 w.heap.size (.slice A3 (l.length + 1) c3) (l ++ [e])) := Row.chg R5.out hc6 (fun g c f hg _ h => by have := own3.out g hg; have := h.1; have := S3.out; omega)
    have hb : ∀ j, j < 11 → w6.cell? ⟨w.heap.size + 3, j, none⟩ = zarr[j]? := fun j _ => blk_cell hb6 j
    have z_0 := hb 0 (by omega)
    have z_1 := hb 1 (by omega)
    have z_2 := hb 2 (by omega)
    have z_3 := hb 3 (by omega)
    have z_4 := hb 4 (by omega)
    have z_5 := hb 5 (by omega)
    have z_6 := hb 6 (by omega)
    have z_7 := hb 7 (by omega)
    have z_8 := hb 8 (by omega)
    have z_9 := hb 9 (by omega)
    have z_10 := hb 10 (by omega)
    simp only [Edu.cells, List.getElem?_cons_zero, List.getElem?_cons_succ, List.getElem?_toArray, Nat.add_zero] at z_0 z_1 z_2 z_3 z_4 z_5 z_6 z_7 z_8 z_9 z_10
    have u0 := blk_cell b26 0
    have u1 := blk_cell b26 1
    have u2 := blk_cell b26 2
    clear hb hb6 hc6 hs6 b26
    go_wp2_with fail
    refine bodyPost_ret (v := .tuple #[.agg #[.int .i64 most, .slice A3 (l.length + 1) c3, .int .i64 lost], .agg zarr, .bool false]) (by simp [results, Try.results16, go_sem, u0, u1, u2, z_0, z_1, z_2, z_3, z_4, z_5, z_6, z_7, z_8, z_9, z_10]) rfl ⟨A3, c3, rfl, ?_, ?_, D6.out⟩
    · have h := R6.out
      rw [show l.length + 1 = (l ++ [e]).length by simp] at h
      exact EO.of h
    · rintro g off x rfl
      exact ⟨Row.own_ge R6.out rfl, Row.own_lt R6.out rfl⟩
set_option maxHeartbeats 2000000 in
theorem rput_full (A : Option Addr) (c : Nat) (most lost : Int) (l : List Edu) (e f : Edu) (w : World) (hl : EO w A l) (hn : l.length ≤ 1000) (he : e ∉ l) (hge : most ≤ (l.length : Int)) (h1 : 1 ≤ most) (hf : (l ++ [e])[0]? = some f) (hl0 : 0 ≤ lost) (hl1 : lost ≤ 1000) :
    Calls Try.prog 16 #[.agg #[.int .i64 most, .slice A l.length c, .int .i64 lost], e.agg] w fun en w' => ∃ A' c', en = .returned (.tuple #[.agg #[.int .i64 most, .slice A' l.length c', .int .i64 (lost + 1)], f.agg, .bool true]) ∧ EO w' A' ((l ++ [e]).drop 1) ∧ (∀ g off x, A' = some ⟨g, off, x⟩ → w.heap.size ≤ g ∧ g < w'.heap.size) ∧ Chg NoM w w' := by
  have HEM := Lib.hid he
  have HF := Lib.hid hf
  clear he hf
  have HL := Lib.hid hl
  have hg := guard32
  clear hl
  unfold Edu.agg
  go_enter Try.func16, Try.ntmps16
  go_wp2_with fail
  have h4 : ∀ (a b c d : Obj), Chg NoM w ((((w.alloc a).alloc b).alloc c).alloc d) ∧ ((((w.alloc a).alloc b).alloc c).alloc d).heap[w.heap.size]? = some a ∧ ((((w.alloc a).alloc b).alloc c).alloc d).heap[w.heap.size + 1]? = some b ∧
      ((((w.alloc a).alloc b).alloc c).alloc d).heap[w.heap.size + 2]? = some c ∧ ((((w.alloc a).alloc b).alloc c).alloc d).heap[w.heap.size + 3]? = some d := by
    intro a b c d
    refine ⟨((((Chg.refl w).alloc _).alloc _).alloc _).alloc _, blk_alloc (blk_alloc (blk_alloc (blk_new w a) b) c) d, ?_, ?_, ?_⟩
    · have h := blk_alloc (blk_alloc (blk_new (w.alloc a) b) c) d
      rwa [show (w.alloc a).heap.size = w.heap.size + 1 by simp] at h
    · have h := blk_alloc (blk_new ((w.alloc a).alloc b) c) d
      rwa [show ((w.alloc a).alloc b).heap.size = w.heap.size + 2 by simp] at h
    · have h := blk_new (((w.alloc a).alloc b).alloc c) d
      rwa [show (((w.alloc a).alloc b).alloc c).heap.size = w.heap.size + 3 by simp] at h
  obtain ⟨c0, b0, b1, b2, b3⟩ := h4 (.cells #[.int .i64 most, .slice A l.length c, .int .i64 lost] 41) (.cells e.cells.toArray 32) (.cells #[.int .i64 0, .slice none 0 0, .int .i64 0] 41) (.cells zarr 32)
  have C0 := Lib.hid c0
  have B0 := Lib.hid b0
  have B1 := Lib.hid b1
  have B2 := Lib.hid b2
  have B3 := Lib.hid b3
  clear c0 b0 b1 b2 b3 h4
  go_loopw [7] (fun i wr => ∃ k : Nat, k ≤ l.length ∧ i = .int .i64 k ∧ Hid (∀ x ∈ l.take k, x ≠ e) ∧ Hid (Chg NoM ((((w.alloc (.cells #[.int .i64 most, .slice A l.length c, .int .i64 lost] 41)).alloc (.cells e.cells.toArray 32)).alloc (.cells #[.int .i64 0, .slice none 0 0, .int .i64 0] 41)).alloc (.cells zarr 32)) wr)) (fun i _ => l.length - (intOf i).toNat)
  case' atStart => exact ⟨0, by omega, rfl, (fun x hx => by simp at hx), Chg.refl _⟩
  obtain ⟨k, hk, rfl, HT, D⟩ := hrel
  have y1 := blk_cell (D.out.blkNo B0.out) 1
  by_cases hlt : k < l.length
  · skip
    obtain ⟨p, hp⟩ : ∃ p, l[k]? = some p := ⟨_, List.getElem?_eq_getElem hlt⟩
    obtain ⟨g, off, rfl, hc⟩ := (HL.out.chgNo (C0.out.trans D.out)).at k p hp
    have HP := Lib.hid hp
    have x_0 := hc 0 (by omega)
    have x_1 := hc 1 (by omega)
    have x_2 := hc 2 (by omega)
    have x_3 := hc 3 (by omega)
    have x_4 := hc 4 (by omega)
    have x_5 := hc 5 (by omega)
    have x_6 := hc 6 (by omega)
    have x_7 := hc 7 (by omega)
    have x_8 := hc 8 (by omega)
    have x_9 := hc 9 (by omega)
    have x_10 := hc 10 (by omega)
    simp only [Edu.cells, List.getElem?_cons_zero, List.getElem?_cons_succ, List.getElem?_toArray, Nat.add_zero] at x_0 x_1 x_2 x_3 x_4 x_5 x_6 x_7 x_8 x_9 x_10
    have hb : ∀ j, j < 11 → wr.cell? ⟨w.heap.size + 1, j, none⟩ = e.cells[j]? := fun j hj => by rw [blk_cell (D.out.blkNo B1.out)]; simp
    have y_0 := hb 0 (by omega)
    have y_1 := hb 1 (by omega)
    have y_2 := hb 2 (by omega)
    have y_3 := hb 3 (by omega)
    have y_4 := hb 4 (by omega)
    have y_5 := hb 5 (by omega)
    have y_6 := hb 6 (by omega)
    have y_7 := hb 7 (by omega)
    have y_8 := hb 8 (by omega)
    have y_9 := hb 9 (by omega)
    have y_10 := hb 10 (by omega)
    simp only [Edu.cells, List.getElem?_cons_zero, List.getElem?_cons_succ, List.getElem?_toArray, Nat.add_zero] at y_0 y_1 y_2 y_3 y_4 y_5 y_6 y_7 y_8 y_9 y_10
    have hq := eqlE p e
    have i0 : (0 : Int) ≤ (k : Int) := by omega
    have i1 : (k : Int) < (l.length : Int) := by omega
    unfold Edu.agg at hq
    clear hc hb hp
    by_cases hep : p = e
    · exact absurd (hep ▸ List.mem_of_getElem? HP.out) HEM.out
    · skip
      have HE := Lib.hid hep
      rw [decide_eq_false hep] at hq
      clear hep
      go_wp2_with fail
      go_quiet (fail)
      go_wp2_with fail
      refine ⟨⟨k + 1, by omega, by go_num, fun y hy => ?_, D.out.drewN _⟩, by simp [intOf]; omega⟩
      rw [List.take_succ_eq_append_getElem hlt] at hy
      rcases List.mem_append.1 hy with h | h
      · exact HT.out y h
      · simp at h
        rw [h, (List.getElem?_eq_some_iff.1 HP.out).2]
        exact HE.out
  · skip
    obtain rfl : k = l.length := by omega
    have hlD := HL.out.chgNo (C0.out.trans D.out)
    have HLD := Lib.hid hlD
    clear hlD HT hk
    go_wp2_with (refine wpList_append_Row _ rfl (.tmp 25) (.tmp 27) 30 rfl w.heap.size 32 _ 11 112 Try.underlying30 Try.info32 rfl (by omega) (.slice none 0 0) 0 [] rfl (Row.nil _ _ _ _) A l.length c (ecells l) rfl (ecells_len l) HLD.out.news (ecells_cell l) (by omega) (by omega) (C0.out.trans D.out).size ?_)
    intro v2 w2 R
    have hr2 := R.row
    rw [Nat.zero_add, List.nil_append] at hr2
    have ch2 : Chg NoM wr w2 := R.chg.mono (fun i o _ h => by have := h.1; simp [Value.ownBlock] at this)
    have D2 := Lib.hid (D.out.trans ch2)
    have own2 : Hid (∀ g, v2.ownBlock = some g → wr.heap.size ≤ g) := by
      intro g hg
      rcases R.own with h | h
      · rw [h] at hg; simp [Value.ownBlock] at hg
      · rw [h] at hg; simp at hg; omega
    obtain ⟨A2, c2, rfl, hc2a, hc2b⟩ := hr2.slice
    have R2 := Lib.hid hr2
    have H2 := Lib.hid ch2.size
    clear R hr2 ch2 y1
    have hb : ∀ j, j < 11 → w2.cell? ⟨w.heap.size + 1, j, none⟩ = e.cells[j]? := fun j hj => by rw [blk_cell (D2.out.blkNo B1.out)]; simp
    have y_0 := hb 0 (by omega)
    have y_1 := hb 1 (by omega)
    have y_2 := hb 2 (by omega)
    have y_3 := hb 3 (by omega)
    have y_4 := hb 4 (by omega)
    have y_5 := hb 5 (by omega)
    have y_6 := hb 6 (by omega)
    have y_7 := hb 7 (by omega)
    have y_8 := hb 8 (by omega)
    have y_9 := hb 9 (by omega)
    have y_10 := hb 10 (by omega)
    simp only [Edu.cells, List.getElem?_cons_zero, List.getElem?_cons_succ, List.getElem?_toArray, Nat.add_zero] at y_0 y_1 y_2 y_3 y_4 y_5 y_6 y_7 y_8 y_9 y_10
    clear hb
    go_wp2_with (refine wpList_append_Row _ rfl (.tmp 29) (.tmp 31) 30 rfl w.heap.size 32 _ 11 112 Try.underlying30 Try.info32 rfl (by omega) (.slice A2 l.length c2) l.length (ecells l) rfl ?c0 (some ⟨w2.heap.size, 0, none⟩) 1 1 (ecells [e]) rfl rfl ?c1 ?c2 ?c3 ?c4 ?c5 ?_)
    case c0 => exact Row.chg R2.out ((Chg.refl (M := NoM) w2).alloc _) (fun _ _ _ _ _ h => h)
    case c1 => exact fun _ => ⟨_, rfl, news_blk (blk_new w2 _)⟩
    case c2 => exact ecells_cell _
    case c3 => omega
    case c4 => omega
    case c5 => exact ((C0.out.trans D2.out).alloc _).size
    intro v3 w3 R
    have hr3 := R.row
    rw [← ecells_append] at hr3
    have hR3 : ERow w3 w.heap.size v3 (l ++ [e]) := by unfold ERow; rw [List.length_append]; exact hr3
    obtain ⟨A3, c3, rfl, hc3a, hc3b⟩ := hr3.slice
    have s1 : w.heap.size + 4 ≤ wr.heap.size := by have := D.out.size; simp at this; omega
    have s2 : wr.heap.size ≤ w2.heap.size := H2.out
    have own2' : ∀ g, (Value.slice A2 l.length c2).ownBlock = some g → wr.heap.size ≤ g := own2.out
    have own3 : Hid (∀ g, (Value.slice A3 (l.length + 1) c3).ownBlock = some g → wr.heap.size ≤ g) := by
      intro g hg
      rcases R.own with h | h
      · rw [h] at hg; exact own2' g hg
      · rw [h] at hg; simp at hg; omega
    have C3 : Hid (Chg NoM w w3) := ((C0.out.trans D2.out).alloc _).thenAll R.chg (fun i o h => by have := own2' i h.1; omega)
    have b03 : Hid (w3.heap[w.heap.size]? = some (.cells #[.int .i64 most, .slice A l.length c, .int .i64 lost] 41 (0, 0))) := R.chg.block _ _ (blk_alloc (D2.out.blkNo B0.out) _) (RowM.ne (by decide))
    have b23 : Hid (w3.heap[w.heap.size + 2]? = some (.cells #[.int .i64 0, .slice none 0 0, .int .i64 0] 41 (0, 0))) := R.chg.block _ _ (blk_alloc (D2.out.blkNo B2.out) _) (RowM.ne (by decide))
    have b33 : Hid (w3.heap[w.heap.size + 3]? = some (.cells zarr 32 (0, 0))) := R.chg.block _ _ (blk_alloc (D2.out.blkNo B3.out) _) (fun h => by have := own2' _ h.1; omega)
    have R3 := Lib.hid hR3
    have S3 := Lib.hid s1
    clear R hr3 hR3 own2' s1 s2 y_0 y_1 y_2 y_3 y_4 y_5 y_6 y_7 y_8 y_9 y_10
    have x0 := blk_cell b03.out 0
    have x1 := blk_cell b03.out 1
    have x2 := blk_cell b03.out 2
    have hle : (l.length : Int) + 1 > most := by omega
    have hrow := R3.out
    rw [show l.length + 1 = (l ++ [e]).length by simp] at hrow
    obtain ⟨g, hA3, hbg, hcur, hcell⟩ := ERow.at hrow HF.out
    subst hA3
    have HC := Lib.hid hcell
    have HR := Lib.hid hrow
    obtain ⟨A', hcut, hA'⟩ := cut_l (P := Try.prog) 30 32 11 Try.underlying30 (by kernel_rfl) (some ⟨g, 0, none⟩) (l.length + 1) c3 1 (by omega)
    rw [if_neg (by omega)] at hA'
    have hA2 : A' = some ⟨g, 11, none⟩ := hA'
    subst hA2
    rw [Nat.add_sub_cancel] at hcut
    have ho3 : wr.heap.size ≤ g := own3.out g rfl
    have S4 := S3.out
    clear hA' hrow hcell hcur
    go_wp2_with fail
    refine wp_region_sig 12 (fun w' => Chg (BoxM (w.heap.size + 2) 41) w3 w') [.L [0, 1, 2, 3, 4, 5, 6, 7, 8, 9, 10], .K 11, .N [12, 13]] rfl (fun _ _ d _ _ h => by cases d <;> exact h) (fun _ h => h) (by kernel_rfl) ((Chg.refl _).drew) ?_
    apply sigL (Nat.le_refl _)
    · intro w' hS
      have b0 := hS.block _ _ b03.out (fun h => by have := h.1; omega)
      have x0 := blk_cell b0 0
      have x1 := blk_cell b0 1
      have x2 := blk_cell b0 2
      have hb : ∀ j, j < 11 → w'.cell? ⟨g, j, none⟩ = f.cells[j]? := fun j hj => by
        have h := HC.out j hj
        rw [Nat.zero_mul, Nat.zero_add] at h
        have hj' : j < f.cells.length := by simp [Edu.cells]; omega
        rw [List.getElem?_eq_getElem hj'] at h ⊢
        exact hS.cell h (fun o _ h => by have := h.1; have h' : g = w.heap.size + 2 := this; omega)
      have y_0 := hb 0 (by omega)
      have y_1 := hb 1 (by omega)
      have y_2 := hb 2 (by omega)
      have y_3 := hb 3 (by omega)
      have y_4 := hb 4 (by omega)
      have y_5 := hb 5 (by omega)
      have y_6 := hb 6 (by omega)
      have y_7 := hb 7 (by omega)
      have y_8 := hb 8 (by omega)
      have y_9 := hb 9 (by omega)
      have y_10 := hb 10 (by omega)
      simp only [Edu.cells, List.getElem?_cons_zero, List.getElem?_cons_succ, List.getElem?_toArray, Nat.add_zero] at y_0 y_1 y_2 y_3 y_4 y_5 y_6 y_7 y_8 y_9 y_10
      clear hb
      (simp only [wpPl, pickOps, List.filterMap_cons, List.filterMap_nil, List.getElem?_toArray, List.getElem?_cons_zero, List.getElem?_cons_succ]; iterate 11 (go_wp2; refine ⟨trivial, ?_⟩)); rfl
    apply sigK
    simp only [pickOps, List.filterMap_cons, List.filterMap_nil, List.getElem?_toArray, List.getElem?_cons_zero, List.getElem?_cons_succ]
    refine wpList_store_row rfl 41 (.tmp 4) (.tmp 45) rfl (w.heap.size + 2) rfl #[.int .i64 most, .slice (some ⟨g, 11, none⟩) l.length (c3 - 1), .int .i64 (lost + 1)] ?cv 41 #[.int .i64 0, .slice none 0 0, .int .i64 0] b23.out (by kernel_rfl) rfl (by simp [Value.oneCell']) ?_
    case cv => rfl
    intro w5 hb5 hc5' hs5
    have hc5 : Chg (BoxM (w.heap.size + 2) 41) w3 w5 := Chg.ofDrew hc5'
    have b35 := Lib.hid (hc5.block _ _ b33.out (BoxM.ne (by decide)))
    have R5 := Lib.hid (Row.chg R3.out hc5 (fun g c f _ _ => BoxM.ne (by decide)))
    have D5 : Hid (Chg NoM w w5) := C3.out.thenAll hc5 (fun i o h => by rw [h.1]; omega)
    have B25 := Lib.hid hb5
    have K5 := Lib.hid hc5
    clear hb5 hc5 hs5 hc5'
    go_wp2_with fail
    refine ⟨K5.out, ?_⟩
    apply sigN
    simp only [pickOps, List.filterMap_cons, List.filterMap_nil, List.getElem?_toArray, List.getElem?_cons_zero, List.getElem?_cons_succ]
    refine wpList_store_row rfl 32 (.tmp 5) (.tmp 48) rfl (w.heap.size + 3) rfl f.arr ?cv 32 zarr b35.out (by kernel_rfl) rfl (arr_one f) ?_
    case cv => rfl
    intro w6 hb6 hc6 hs6
    have b26 := hc6.block _ _ B25.out (BoxM.ne (by decide))
    have D6 : Hid (Chg NoM w w6) := D5.out.thenAll hc6 (fun i o h => by rw [h.1]; omega)
    have R6 : Hid (ERow w6 w.heap.size (.slice (some ⟨g, 0, none⟩) (l.length + 1) c3) (l ++ [e])) := Row.chg R5.out hc6 (fun g c f hg _ h => by have := own3.out g hg; have := h.1; omega)
    have hb : ∀ j, j < 11 → w6.cell? ⟨w.heap.size + 3, j, none⟩ = f.arr[j]? := fun j _ => blk_cell hb6 j
    have z_0 := hb 0 (by omega)
    have z_1 := hb 1 (by omega)
    have z_2 := hb 2 (by omega)
    have z_3 := hb 3 (by omega)
    have z_4 := hb 4 (by omega)
    have z_5 := hb 5 (by omega)
    have z_6 := hb 6 (by omega)
    have z_7 := hb 7 (by omega)
    have z_8 := hb 8 (by omega)
    have z_9 := hb 9 (by omega)
    have z_10 := hb 10 (by omega)
    simp only [Edu.cells, List.getElem?_cons_zero, List.getElem?_cons_succ, List.getElem?_toArray, Nat.add_zero] at z_0 z_1 z_2 z_3 z_4 z_5 z_6 z_7 z_8 z_9 z_10
    have u0 := blk_cell b26 0
    have u1 := blk_cell b26 1
    have u2 := blk_cell b26 2
    clear hb hb6 hc6 hs6 b26
    go_wp2_with fail
    apply sigEnd
    go_wp2_with fail
    refine bodyPost_ret (v := .tuple #[.agg #[.int .i64 most, .slice (some ⟨g, 11, none⟩) l.length (c3 - 1), .int .i64 (lost + 1)], .agg f.arr, .bool true]) (by simp [results, Try.results16, go_sem, u0, u1, u2, z_0, z_1, z_2, z_3, z_4, z_5, z_6, z_7, z_8, z_9, z_10]) rfl ⟨some ⟨g, 11, none⟩, c3 - 1, rfl, ?_, ?_, D6.out⟩
    · have h := R6.out
      rw [show l.length + 1 = (l ++ [e]).length by simp] at h
      have h2 := EO.of h
      intro h0
      obtain ⟨g', off', hA', hcell'⟩ := h2 (by simp)
      cases hA'
      refine ⟨g, 11, rfl, fun j u hu => ?_⟩
      rw [ecells_drop, List.getElem?_drop] at hu
      have := hcell' _ _ hu
      rwa [Nat.zero_add, Nat.one_mul] at this
    · intro g' off x hx
      cases hx
      exact ⟨Row.own_ge R6.out rfl, Row.own_lt R6.out rfl⟩
end Go.Proofs.Ytccppjhkffmnaaa
