/- Contracts of the reference of layer 23, second part: Take. -/
import Derived.Test.YtmkjonfdeolihaaRef
namespace Go.Proofs.Ytmkjonfdeolihaa
set_option linter.unusedVariables false
set_option linter.unusedSimpArgs false
open Go.RowKit

set_option maxHeartbeats 1600000 in
theorem rtake_no (B : Nat) (most lost k : Int) (v : Value) (l : List (ByteArray × ByteArray)) (w : World) (hl : RefAt w B v l) (hk : k < 0 ∨ (l.length : Int) ≤ k) :
    Calls Try.prog 16 #[.agg #[.int .i64 most, v, .int .i64 lost], .int .i64 k] w fun e w' => e = .returned (.tuple #[.agg #[.int .i64 most, v, .int .i64 lost], .agg #[.string ⟨#[]⟩, .string ⟨#[]⟩], .bool false]) ∧ Chg NoM w w' := by
  obtain ⟨Av, cv, rfl, _, _⟩ := Row.slice hl
  clear hl
  by_cases h : k < 0
  · go_enter Try.func16, Try.ntmps16
    go_wp2_with fail
    refine bodyPost_ret (v := .tuple #[.agg #[.int .i64 most, .slice Av l.length cv, .int .i64 lost], .agg #[.string ⟨#[]⟩, .string ⟨#[]⟩], .bool false]) (by simp [results, Try.results16, go_sem]) rfl ⟨rfl, ?_⟩
    repeat (first | exact Chg.refl _ | apply Chg.alloc | refine Chg.setNew ?_ (by omega))
  · have h2 : (l.length : Int) ≤ k := by omega
    go_enter Try.func16, Try.ntmps16
    go_wp2_with fail
    refine bodyPost_ret (v := .tuple #[.agg #[.int .i64 most, .slice Av l.length cv, .int .i64 lost], .agg #[.string ⟨#[]⟩, .string ⟨#[]⟩], .bool false]) (by simp [results, Try.results16, go_sem]) rfl ⟨rfl, ?_⟩
    repeat (first | exact Chg.refl _ | apply Chg.alloc | refine Chg.setNew ?_ (by omega))

set_option maxHeartbeats 1600000 in
theorem rtake_yes (B : Nat) (most lost : Int) (k : Nat) (v : Value) (l : List (ByteArray × ByteArray)) (p : ByteArray × ByteArray) (w : World) (hl : RefAt w B v l) (hp : l[k]? = some p) (hlen : l.length ≤ 1000) :
    Calls Try.prog 16 #[.agg #[.int .i64 most, v, .int .i64 lost], .int .i64 k] w fun e w' => ∃ v', e = .returned (.tuple #[.agg #[.int .i64 most, v', .int .i64 lost], .agg #[.string p.1, .string p.2], .bool true]) ∧
      RefAt w' w.heap.size v' (l.take k ++ l.drop (k + 1)) ∧ Chg NoM w w' := by
  obtain ⟨Av, cv, rfl, hcv, hcv2⟩ := Row.slice hl
  have hk : k < l.length := (List.getElem?_eq_some_iff.1 hp).1
  obtain ⟨g, cap, he, hbg, _, _, ⟨cur, hcur, _⟩, hcells⟩ := Row.cells hl (by omega)
  cases he
  obtain ⟨hq0, hq1⟩ := rcells_at l k p hp
  have e0 := hcells _ _ hq0
  have e1 := hcells _ _ hq1
  have HL := Lib.hid hl
  have hgw := lt_of_blk hcur
  have i0 : ¬ ((k : Int) < 0) := by omega
  have i1 : ¬ ((l.length : Int) ≤ (k : Int)) := by omega
  have l0 : g < w.heap.size + 1 := by omega
  have l1 : g < w.heap.size + 1 + 1 := by omega
  have l2 : g < w.heap.size + 1 + 1 + 1 := by omega
  have g0 : g ≠ w.heap.size := by omega
  have g1 : g ≠ w.heap.size + 1 := by omega
  have g2 : g ≠ w.heap.size + 1 + 1 := by omega
  have g3 : g ≠ w.heap.size + 1 + 1 + 1 := by omega
  obtain ⟨A', hcut, hA'⟩ := cut_l (P := Try.prog) 31 44 2 Try.underlying31 (by kernel_rfl) (some ⟨g, 0, none⟩) l.length cv (k + 1) (by omega)
  have hcut2 := cut_h (P := Try.prog) 31 44 2 Try.underlying31 (by kernel_rfl) (some ⟨g, 0, none⟩) l.length cv k (by omega)
  have HA := Lib.hid hA'
  have ek : ((k + 1 : Nat) : Int) = (k : Int) + 1 := by omega
  rw [ek] at hcut
  have HC := Lib.hid hcells
  clear ek hA' hl hp hq0 hq1 hcells hcur
  go_enter Try.func16, Try.ntmps16
  go_wp2_with (refine wpList_append_Row _ rfl (.tmp 25) (.tmp 29) 31 rfl w.heap.size 44 _ 2 32 Try.underlying31 Try.info44 rfl (by omega) (.slice none 0 0) 0 [] rfl ?c0 (some ⟨g, 0, none⟩) k cv (rcells (l.take k)) rfl ?cx ?c1 ?c2 ?c3 ?c4 ?c5 ?_)
  case c0 => exact Row.nil _ _ _ _
  case cx => rw [rcells_len, List.length_take]; omega
  case c1 =>
    intro _ j u hu
    rw [rcells_take, List.getElem?_take] at hu
    split at hu
    · exact HC.out j u hu
    · cases hu
  case c2 => exact rcells_cell _
  case c3 => omega
  case c4 => omega
  case c5 => omega
  intro v1 w1 R1
  have C1 : Hid (Chg NoM w w1) := (((((Chg.refl (M := NoM) w).alloc _).alloc _).alloc _).alloc _).then R1.chg (fun i o _ h => by cases h.own)
  have b0 : w1.heap[w.heap.size]? = some (.cells #[.int .i64 most, .slice (some ⟨g, 0, none⟩) l.length cv, .int .i64 lost] 33 (0, 0)) := R1.chg.block _ _ (blk_alloc (blk_alloc (blk_alloc (blk_new w _) _) _) _) (RowM.ne (by decide))
  have b1 : w1.heap[w.heap.size + 1]? = some (.cells #[.int .i64 0, .slice none 0 0, .int .i64 0] 33 (0, 0)) := R1.chg.block _ _ (blk_alloc (blk_alloc (by simpa using blk_new (w.alloc _) _) _) _) (RowM.ne (by decide))
  have b2 : w1.heap[w.heap.size + 1 + 1]? = some (.cells #[.string ⟨#[]⟩, .string ⟨#[]⟩] 44 (0, 0)) := R1.chg.block _ _ (blk_alloc (by simpa using blk_new ((w.alloc _).alloc _) _) _) (fun h => by cases h.own)
  have b3 : w1.heap[w.heap.size + 1 + 1 + 1]? = some (.cells #[.string p.1, .string p.2] 44 (0, 0)) := R1.chg.block _ _ (by simpa using blk_new (((w.alloc _).alloc _).alloc _) _) (fun h => by cases h.own)
  have hs1 : w.heap.size + 4 ≤ w1.heap.size := by have := R1.chg.size; simpa using this
  have HR1 := Lib.hid R1.row
  obtain ⟨A1, c1, rfl, _, _⟩ := R1.row.slice
  have O1 : Hid (∀ i, (.slice A1 (0 + k) c1 : Value).ownBlock = some i → w.heap.size + 4 ≤ i) := by
    intro i hi
    rcases R1.own with h | h
    · rw [h] at hi; cases hi
    · rw [h] at hi; simp at hi; omega
  clear R1 e0 e1 l0 l1 l2
  have b0_c0 := blk_cell b0 0; have b0_f0 := blk_free b0 0; have b0_c1 := blk_cell b0 1; have b0_f1 := blk_free b0 1; have b0_c2 := blk_cell b0 2; have b0_f2 := blk_free b0 2; have H_b0 := Lib.hid b0; clear b0
  have H_b1 := Lib.hid b1
  have H_b2 := Lib.hid b2
  have H_b3 := Lib.hid b3
  clear b1 b2 b3
  go_wp2_with (refine wpList_append_Row _ rfl (.tmp 31) (.tmp 36) 31 rfl w.heap.size 44 _ 2 32 Try.underlying31 Try.info44 rfl (by omega) (.slice A1 (0 + k) c1) (0 + k) ([] ++ rcells (l.take k)) rfl ?d0 A' (l.length - (k + 1)) (cv - (k + 1)) (rcells (l.drop (k + 1))) rfl ?dx ?d1 ?d2 ?d3 ?d4 ?d5 ?_)
  case d0 => exact HR1.out
  case dx => rw [rcells_len, List.length_drop]
  case d1 => rw [rcells_drop]; exact Row.drop (HL.out.chgNo C1.out) (k + 1) (by omega) (by omega) HA.out
  case d2 => exact rcells_cell _
  case d3 => omega
  case d4 => omega
  case d5 => omega
  intro v2 w2 R2
  have own1 : ∀ i, (.slice A1 k c1 : Value).ownBlock = some i → w.heap.size + 4 ≤ i := fun i hi => O1.out i (by rw [Nat.zero_add]; exact hi)
  have C2 : Hid (Chg NoM w w2) := C1.out.thenAll R2.chg (fun i o h => by have := own1 i h.own; omega)
  have keep : ∀ b o, w1.heap[b]? = some o → b < w.heap.size + 4 → w2.heap[b]? = some o := fun b o hb hl => R2.chg.block _ _ hb (fun h => by have := own1 b h.own; omega)
  have d0 := keep _ _ H_b0.out (by omega)
  have d1 := keep _ _ H_b1.out (by omega)
  have d2 := keep _ _ H_b2.out (by omega)
  have d3 := keep _ _ H_b3.out (by omega)
  have HR2 : Hid (Row w2 w.heap.size 44 2 v2 (k + (l.length - (k + 1))) (rcells (l.take k ++ l.drop (k + 1)))) := by
    rw [rcells_append]; exact R2.row
  obtain ⟨A2, c2, rfl, _, _⟩ := R2.row.slice
  have own2 : Hid (∀ i, (.slice A2 (k + (l.length - (k + 1))) c2 : Value).ownBlock = some i → w.heap.size + 4 ≤ i) := by
    intro i hi
    rcases R2.own with h | h
    · rw [h] at hi; exact own1 i hi
    · rw [h] at hi; injection hi with hi; omega
  clear R2 keep b0_c0 b0_c1 b0_c2 b0_f0 b0_f1 b0_f2 own1
  have s2 := C2.out.size
  have d0_c0 := blk_cell d0 0; have d0_f0 := blk_free d0 0; have d0_c1 := blk_cell d0 1; have d0_f1 := blk_free d0 1; have d0_c2 := blk_cell d0 2; have d0_f2 := blk_free d0 2; have H_d0 := Lib.hid d0; clear d0
  have H_d1 := Lib.hid d1
  have H_d2 := Lib.hid d2
  have H_d3 := Lib.hid d3
  clear d1 d2 d3
  obtain ⟨n2, hn2⟩ : ∃ n2, n2 = k + (l.length - (k + 1)) := ⟨_, rfl⟩
  rw [← hn2] at HR2 own2 ⊢
  have HN2 := Lib.hid hn2
  clear hn2
  go_wp2_with fail
  have cW : Chg (fun i _ => i = w.heap.size) w2 (w2.setCell ⟨w.heap.size, 1, none⟩ (.slice A2 n2 c2)) := Chg.store w2 ⟨w.heap.size, 1, none⟩ _
  have x0 : (w2.setCell ⟨w.heap.size, 1, none⟩ (.slice A2 n2 c2)).heap[w.heap.size]? = some (.cells #[.int .i64 most, .slice A2 n2 c2, .int .i64 lost] 33 (0, 0)) := blk_set H_d0.out 1 _
  generalize w2.setCell ⟨w.heap.size, 1, none⟩ (.slice A2 n2 c2) = W at cW x0 ⊢
  have x1 := cW.block _ _ H_d1.out (by omega)
  have x2 := cW.block _ _ H_d2.out (by omega)
  have x3 := cW.block _ _ H_d3.out (by omega)
  have CW := Lib.hid cW
  have H_x0 := Lib.hid x0
  have H_x1 := Lib.hid x1
  have H_x2 := Lib.hid x2
  have H_x3 := Lib.hid x3
  clear cW x0 x1 x2 x3 d0_c0 d0_c1 d0_c2 d0_f0 d0_f1 d0_f2
  refine wp_region_sig 3 (fun w' => Chg (fun i _ => i = w.heap.size + 1) W w') [.L [0, 1], .K 2, .N [3, 4]] rfl (fun _ _ d _ _ h => by cases d <;> exact h) (fun _ h => h) (by kernel_rfl) ((Chg.refl _).drew) ?_
  apply sigL (Nat.le_refl _)
  · intro w' hS
    have y0 := hS.block _ _ H_x0.out (by omega)
    have y3 := hS.block _ _ H_x3.out (by omega)
    have y0_c0 := blk_cell y0 0; have y0_f0 := blk_free y0 0; have y0_c1 := blk_cell y0 1; have y0_f1 := blk_free y0 1; have y0_c2 := blk_cell y0 2; have y0_f2 := blk_free y0 2; have H_y0 := Lib.hid y0; clear y0
    have y3_c0 := blk_cell y3 0; have y3_f0 := blk_free y3 0; have y3_c1 := blk_cell y3 1; have y3_f1 := blk_free y3 1; have H_y3 := Lib.hid y3; clear y3
    (simp only [wpPl, pickOps, List.filterMap_cons, List.filterMap_nil, List.getElem?_toArray, List.getElem?_cons_zero, List.getElem?_cons_succ]; iterate 2 (go_wp2; refine ⟨trivial, ?_⟩)); rfl
  apply sigK
  simp only [pickOps, List.filterMap_cons, List.filterMap_nil, List.getElem?_toArray, List.getElem?_cons_zero, List.getElem?_cons_succ]
  have z1 : W.drew.heap[w.heap.size + 1]? = some (.cells #[.int .i64 0, .slice none 0 0, .int .i64 0] 33 (0, 0)) := H_x1.out
  have z2 : W.drew.heap[w.heap.size + 1 + 1]? = some (.cells #[.string ⟨#[]⟩, .string ⟨#[]⟩] 44 (0, 0)) := H_x2.out
  have CV : Hid (Chg (fun i _ => i = w.heap.size + 1) W W.drew) := (Chg.refl W).drew
  have CWd : Hid (Chg (fun i _ => i = w.heap.size) w2 W.drew) := CW.out.drew
  generalize W.drew = V at z1 z2 CWd CV ⊢
  have z1_c0 := blk_cell z1 0; have z1_f0 := blk_free z1 0; have z1_c1 := blk_cell z1 1; have z1_f1 := blk_free z1 1; have z1_c2 := blk_cell z1 2; have z1_f2 := blk_free z1 2; have H_z1 := Lib.hid z1; clear z1
  have z2_c0 := blk_cell z2 0; have z2_f0 := blk_free z2 0; have z2_c1 := blk_cell z2 1; have z2_f1 := blk_free z2 1; have H_z2 := Lib.hid z2; clear z2
  go_wp2_with fail
  refine ⟨?_, ?_⟩
  · repeat (first | exact CV.out | (refine Chg.setCell ?_ (fun _ _ => rfl) _))
  apply sigN
  simp only [pickOps, List.filterMap_cons, List.filterMap_nil, List.getElem?_toArray, List.getElem?_cons_zero, List.getElem?_cons_succ]
  go_wp2_with fail
  apply sigEnd
  go_wp2_with fail
  refine bodyPost_ret (v := .tuple #[.agg #[.int .i64 most, .slice A2 n2 c2, .int .i64 lost], .agg #[.string p.1, .string p.2], .bool true]) (by simp [results, Try.results16, go_sem, z1_c0, z1_c1, z1_c2, z2_c0, z2_c1]) rfl ⟨_, rfl, ?_, ?_⟩
  · have hlen : (l.take k ++ l.drop (k + 1)).length = n2 := by rw [HN2.out, List.length_append, List.length_take, List.length_drop]; omega
    have HR3 : Row w2 w.heap.size 44 2 (.slice A2 n2 c2) (l.take k ++ l.drop (k + 1)).length (rcells (l.take k ++ l.drop (k + 1))) := by rw [hlen]; exact HR2.out
    refine (Row.chg HR3 CWd.out (fun i _ _ hi _ e => by have := own2.out i hi; omega)).chg (M := fun i _ => i < w.heap.size + 4) ?_ (fun i _ _ hi _ e => by have := own2.out i hi; omega)
    repeat (first | exact Chg.refl _ | (refine Chg.setAt ?_ (fun _ => by show _ < _; omega)))
  · have CV2 : Chg NoM w V := C2.out.then CWd.out (fun i o hi e => by have := lt_of_blk hi; omega)
    repeat (first | exact CV2 | apply Chg.alloc | refine Chg.setNew ?_ (by omega))
end Go.Proofs.Ytmkjonfdeolihaa
