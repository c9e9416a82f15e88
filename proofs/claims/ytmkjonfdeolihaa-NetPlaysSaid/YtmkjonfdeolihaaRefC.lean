/- Contracts of the reference of layer 23, third part: Copy. -/
import Derived.Test.YtmkjonfdeolihaaRef2
namespace Go.Proofs.Ytmkjonfdeolihaa
set_option linter.unusedVariables false
set_option linter.unusedSimpArgs false
open Go.RowKit

set_option maxHeartbeats 1600000 in
theorem rcopy_no (B : Nat) (most lost k : Int) (v : Value) (l : List (ByteArray × ByteArray)) (w : World) (hl : RefAt w B v l) (hk : k < 0 ∨ (l.length : Int) ≤ k) :
    Calls Try.prog 20 #[.agg #[.int .i64 most, v, .int .i64 lost], .int .i64 k] w fun e w' => e = .returned (.tuple #[.agg #[.int .i64 most, v, .int .i64 lost], .bool false]) ∧ Chg NoM w w' := by
  obtain ⟨Av, cv, rfl, _, _⟩ := Row.slice hl
  clear hl
  by_cases h : k < 0
  · have h_ := h
    go_enter Try.func20, Try.ntmps20
    go_wp2_with fail
    refine bodyPost_ret (v := .tuple #[.agg #[.int .i64 most, .slice Av l.length cv, .int .i64 lost], .bool false]) (by simp [results, Try.results20, go_sem]) rfl ⟨rfl, ?_⟩
    repeat (first | exact Chg.refl _ | apply Chg.alloc | refine Chg.setNew ?_ (by omega))
  · have h2 : (l.length : Int) ≤ k := by omega
    go_enter Try.func20, Try.ntmps20
    go_wp2_with fail
    refine bodyPost_ret (v := .tuple #[.agg #[.int .i64 most, .slice Av l.length cv, .int .i64 lost], .bool false]) (by simp [results, Try.results20, go_sem]) rfl ⟨rfl, ?_⟩
    repeat (first | exact Chg.refl _ | apply Chg.alloc | refine Chg.setNew ?_ (by omega))

set_option maxHeartbeats 1600000 in
theorem rcopy_full (B : Nat) (most lost : Int) (k : Nat) (v : Value) (l : List (ByteArray × ByteArray)) (p : ByteArray × ByteArray) (w : World) (hl : RefAt w B v l) (hp : l[k]? = some p) (hge : most ≤ (l.length : Int)) (h0 : 0 ≤ lost) (h1 : lost ≤ 4611686018427387904) :
    Calls Try.prog 20 #[.agg #[.int .i64 most, v, .int .i64 lost], .int .i64 k] w fun e w' => e = .returned (.tuple #[.agg #[.int .i64 most, v, .int .i64 (lost + 1)], .bool false]) ∧ Chg NoM w w' := by
  obtain ⟨Av, cv, rfl, hcv, hcv2⟩ := Row.slice hl
  have hk : k < l.length := (List.getElem?_eq_some_iff.1 hp).1
  obtain ⟨g, cap, he, hbg, _, _, ⟨cur, hcur, _⟩, hcells⟩ := Row.cells hl (by omega)
  cases he
  obtain ⟨hq0, hq1⟩ := rcells_at l k p hp
  have E0 := Lib.hid (hcells _ _ hq0)
  have E1 := Lib.hid (hcells _ _ hq1)
  have HL := Lib.hid hl
  have HP := Lib.hid hp
  have i0 : ¬ ((k : Int) < 0) := by omega
  have i1 : ¬ ((l.length : Int) ≤ (k : Int)) := by omega
  have i2 : (0 : Int) ≤ (k : Int) := by omega
  have i3 : (k : Int) < (l.length : Int) := by omega
  clear hl hcells hcur hq0 hq1 hp
  go_enter Try.func20, Try.ntmps20
  go_wp2_with fail
  have cW : Chg NoM w ((w.alloc (.cells #[.int .i64 most, .slice (some ⟨g, 0, none⟩) l.length cv, .int .i64 lost] 33)).alloc (.cells #[.int .i64 0, .slice none 0 0, .int .i64 0] 33)) := ((Chg.refl w).alloc _).alloc _
  have b1 := blk_alloc (blk_new w (.cells #[.int .i64 most, .slice (some ⟨g, 0, none⟩) l.length cv, .int .i64 lost] 33)) (.cells #[.int .i64 0, .slice none 0 0, .int .i64 0] 33)
  have b2 : ((w.alloc (.cells #[.int .i64 most, .slice (some ⟨g, 0, none⟩) l.length cv, .int .i64 lost] 33)).alloc (.cells #[.int .i64 0, .slice none 0 0, .int .i64 0] 33)).heap[w.heap.size + 1]? = some (.cells #[.int .i64 0, .slice none 0 0, .int .i64 0] 33 (0, 0)) := by simpa using blk_new (w.alloc _) _
  generalize (w.alloc (.cells #[.int .i64 most, .slice (some ⟨g, 0, none⟩) l.length cv, .int .i64 lost] 33)).alloc (.cells #[.int .i64 0, .slice none 0 0, .int .i64 0] 33) = W at cW b1 b2 ⊢
  have CW := Lib.hid cW
  have B1 := Lib.hid b1
  have B2 := Lib.hid b2
  have SW := Lib.hid cW.size
  clear cW b1 b2
  refine wp_region_sig 6 (fun w' => Chg NoM W w') [.L [0, 1, 2, 3, 4, 5], .N [6], .P [7, 8], .N [9, 10]] rfl (fun _ _ d _ _ h => by cases d <;> exact h) (fun _ h => h) (by kernel_rfl) ((Chg.refl _).drew) ?_
  apply sigL (Nat.le_refl _)
  · intro w' hS
    have y0 := hS.blkNo B1.out
    have y1 := hS.cellNo (CW.out.cellNo E0.out)
    have y2 := hS.cellNo (CW.out.cellNo E1.out)
    have y0_c0 := blk_cell y0 0; have y0_f0 := blk_free y0 0; have y0_c1 := blk_cell y0 1; have y0_f1 := blk_free y0 1; have y0_c2 := blk_cell y0 2; have y0_f2 := blk_free y0 2; have H_y0 := Lib.hid y0; clear y0
    (simp only [wpPl, pickOps, List.filterMap_cons, List.filterMap_nil, List.getElem?_toArray, List.getElem?_cons_zero, List.getElem?_cons_succ]; iterate 6 (go_wp2; refine ⟨trivial, ?_⟩)); rfl
  apply sigN
  simp only [pickOps, List.filterMap_cons, List.filterMap_nil, List.getElem?_toArray, List.getElem?_cons_zero, List.getElem?_cons_succ]
  have CV : Hid (Chg NoM w W.drew) := CW.out.drew
  have D1 : Hid (W.drew.heap[w.heap.size]? = some (.cells #[.int .i64 most, .slice (some ⟨g, 0, none⟩) l.length cv, .int .i64 lost] 33 (0, 0))) := B1.out
  have D2 : Hid (W.drew.heap[w.heap.size + 1]? = some (.cells #[.int .i64 0, .slice none 0 0, .int .i64 0] 33 (0, 0))) := B2.out
  generalize W.drew = V at CV D1 D2 ⊢
  go_wp2_with fail
  refine (rput_full B most lost _ l p.1 p.2 V (HL.out.chgNo CV.out) hge h0 h1).mono ?_
  rintro e w1 ⟨rfl, hc1⟩
  have C1 := Lib.hid (CV.out.trans hc1)
  have q2 : w1.heap[w.heap.size + 1]? = some (.cells #[.int .i64 0, .slice none 0 0, .int .i64 0] 33 (0, 0)) := hc1.blkNo D2.out
  clear hc1
  have q2_c0 := blk_cell q2 0; have q2_f0 := blk_free q2 0; have q2_c1 := blk_cell q2 1; have q2_f1 := blk_free q2 1; have q2_c2 := blk_cell q2 2; have q2_f2 := blk_free q2 2; have H_q2 := Lib.hid q2; clear q2
  go_wp2_with fail
  apply sigP (by simp)
  · intro w'
    (simp only [wpPl, pickOps, List.filterMap_cons, List.filterMap_nil, List.getElem?_toArray, List.getElem?_cons_zero, List.getElem?_cons_succ]; iterate 2 (go_wp2; refine ⟨trivial, ?_⟩)); rfl
  apply sigN
  simp only [pickOps, List.filterMap_cons, List.filterMap_nil, List.getElem?_toArray, List.getElem?_cons_zero, List.getElem?_cons_succ]
  go_wp2_with fail
  apply sigEnd
  go_wp2_with fail
  refine bodyPost_ret (v := .tuple #[.agg #[.int .i64 most, .slice (some ⟨g, 0, none⟩) l.length cv, .int .i64 (lost + 1)], .bool false]) (by simp [results, Try.results20, go_sem, q2_c0, q2_c1, q2_c2]) rfl ⟨rfl, ?_⟩
  repeat (first | exact C1.out | apply Chg.alloc | refine Chg.setNew ?_ (by omega))
set_option maxHeartbeats 1600000 in
theorem rcopy_yes (B : Nat) (most lost : Int) (k : Nat) (v : Value) (l : List (ByteArray × ByteArray)) (p : ByteArray × ByteArray) (w : World) (hl : RefAt w B v l) (hp : l[k]? = some p) (hlt : (l.length : Int) < most) (hm : most ≤ 1000) :
    Calls Try.prog 20 #[.agg #[.int .i64 most, v, .int .i64 lost], .int .i64 k] w fun e w' => ∃ v', e = .returned (.tuple #[.agg #[.int .i64 most, v', .int .i64 lost], .bool true]) ∧ RefAt w' w.heap.size v' (l ++ [p]) ∧ Chg NoM w w' := by
  obtain ⟨Av, cv, rfl, hcv, hcv2⟩ := Row.slice hl
  have hk : k < l.length := (List.getElem?_eq_some_iff.1 hp).1
  obtain ⟨g, cap, he, hbg, _, _, ⟨cur, hcur, _⟩, hcells⟩ := Row.cells hl (by omega)
  cases he
  obtain ⟨hq0, hq1⟩ := rcells_at l k p hp
  have E0 := Lib.hid (hcells _ _ hq0)
  have E1 := Lib.hid (hcells _ _ hq1)
  have HL := Lib.hid hl
  have HP := Lib.hid hp
  have i0 : ¬ ((k : Int) < 0) := by omega
  have i1 : ¬ ((l.length : Int) ≤ (k : Int)) := by omega
  have i2 : (0 : Int) ≤ (k : Int) := by omega
  have i3 : (k : Int) < (l.length : Int) := by omega
  clear hl hcells hcur hq0 hq1 hp
  go_enter Try.func20, Try.ntmps20
  go_wp2_with fail
  have cW : Chg NoM w ((w.alloc (.cells #[.int .i64 most, .slice (some ⟨g, 0, none⟩) l.length cv, .int .i64 lost] 33)).alloc (.cells #[.int .i64 0, .slice none 0 0, .int .i64 0] 33)) := ((Chg.refl w).alloc _).alloc _
  have b1 := blk_alloc (blk_new w (.cells #[.int .i64 most, .slice (some ⟨g, 0, none⟩) l.length cv, .int .i64 lost] 33)) (.cells #[.int .i64 0, .slice none 0 0, .int .i64 0] 33)
  have b2 : ((w.alloc (.cells #[.int .i64 most, .slice (some ⟨g, 0, none⟩) l.length cv, .int .i64 lost] 33)).alloc (.cells #[.int .i64 0, .slice none 0 0, .int .i64 0] 33)).heap[w.heap.size + 1]? = some (.cells #[.int .i64 0, .slice none 0 0, .int .i64 0] 33 (0, 0)) := by simpa using blk_new (w.alloc _) _
  generalize (w.alloc (.cells #[.int .i64 most, .slice (some ⟨g, 0, none⟩) l.length cv, .int .i64 lost] 33)).alloc (.cells #[.int .i64 0, .slice none 0 0, .int .i64 0] 33) = W at cW b1 b2 ⊢
  have CW := Lib.hid cW
  have B1 := Lib.hid b1
  have B2 := Lib.hid b2
  have SW := Lib.hid cW.size
  clear cW b1 b2
  refine wp_region_sig 6 (fun w' => Chg NoM W w') [.L [0, 1, 2, 3, 4, 5], .N [6], .P [7, 8], .N [9, 10]] rfl (fun _ _ d _ _ h => by cases d <;> exact h) (fun _ h => h) (by kernel_rfl) ((Chg.refl _).drew) ?_
  apply sigL (Nat.le_refl _)
  · intro w' hS
    have y0 := hS.blkNo B1.out
    have y1 := hS.cellNo (CW.out.cellNo E0.out)
    have y2 := hS.cellNo (CW.out.cellNo E1.out)
    have y0_c0 := blk_cell y0 0; have y0_f0 := blk_free y0 0; have y0_c1 := blk_cell y0 1; have y0_f1 := blk_free y0 1; have y0_c2 := blk_cell y0 2; have y0_f2 := blk_free y0 2; have H_y0 := Lib.hid y0; clear y0
    (simp only [wpPl, pickOps, List.filterMap_cons, List.filterMap_nil, List.getElem?_toArray, List.getElem?_cons_zero, List.getElem?_cons_succ]; iterate 6 (go_wp2; refine ⟨trivial, ?_⟩)); rfl
  apply sigN
  simp only [pickOps, List.filterMap_cons, List.filterMap_nil, List.getElem?_toArray, List.getElem?_cons_zero, List.getElem?_cons_succ]
  have CV : Hid (Chg NoM w W.drew) := CW.out.drew
  have D1 : Hid (W.drew.heap[w.heap.size]? = some (.cells #[.int .i64 most, .slice (some ⟨g, 0, none⟩) l.length cv, .int .i64 lost] 33 (0, 0))) := B1.out
  have D2 : Hid (W.drew.heap[w.heap.size + 1]? = some (.cells #[.int .i64 0, .slice none 0 0, .int .i64 0] 33 (0, 0))) := B2.out
  generalize W.drew = V at CV D1 D2 ⊢
  go_wp2_with fail
  refine (rput_room B most lost _ l p.1 p.2 V (HL.out.chgNo CV.out) hlt hm).mono ?_
  rintro e w1 ⟨v1, rfl, hr1, hc1⟩
  obtain ⟨R4, hR4⟩ : ∃ R, R = l ++ [p] := ⟨_, rfl⟩
  rw [show l ++ [(p.1, p.2)] = R4 from hR4.symm] at hr1
  have HR4 := Lib.hid hR4
  have C1 := Lib.hid (CV.out.trans hc1)
  have R1 : Hid (RefAt w1 w.heap.size v1 R4) := hr1.base CV.out.size
  have q2 : w1.heap[w.heap.size + 1]? = some (.cells #[.int .i64 0, .slice none 0 0, .int .i64 0] 33 (0, 0)) := hc1.blkNo D2.out
  obtain ⟨A3, c3, rfl, _, _⟩ := Row.slice hr1
  clear hc1 hr1 hR4
  have q2_c0 := blk_cell q2 0; have q2_f0 := blk_free q2 0; have q2_c1 := blk_cell q2 1; have q2_f1 := blk_free q2 1; have q2_c2 := blk_cell q2 2; have q2_f2 := blk_free q2 2; have H_q2 := Lib.hid q2; clear q2
  go_wp2_with fail
  apply sigP (by simp)
  · intro w'
    (simp only [wpPl, pickOps, List.filterMap_cons, List.filterMap_nil, List.getElem?_toArray, List.getElem?_cons_zero, List.getElem?_cons_succ]; iterate 2 (go_wp2; refine ⟨trivial, ?_⟩)); rfl
  apply sigN
  simp only [pickOps, List.filterMap_cons, List.filterMap_nil, List.getElem?_toArray, List.getElem?_cons_zero, List.getElem?_cons_succ]
  go_wp2_with fail
  apply sigEnd
  go_wp2_with fail
  refine bodyPost_ret (v := .tuple #[.agg #[.int .i64 most, .slice A3 R4.length c3, .int .i64 lost], .bool true]) (by simp [results, Try.results20, go_sem, q2_c0, q2_c1, q2_c2]) rfl ⟨_, rfl, ?_, ?_⟩
  · rw [← HR4.out]
    refine Row.chg (M := BoxM (w.heap.size + 1) 33) R1.out ?_ (fun _ _ _ _ _ => BoxM.ne (by decide))
    repeat (first | exact Chg.refl _ | apply Chg.alloc | refine Chg.setBox ?_ H_q2.out)
  · repeat (first | exact C1.out | apply Chg.alloc | refine Chg.setNew ?_ (by omega))
end Go.Proofs.Ytmkjonfdeolihaa
