/- Contracts of the reference of layer 23, fourth part: Move. -/
import Derived.Test.YtmkjonfdeolihaaRef2
namespace Go.Proofs.Ytmkjonfdeolihaa
set_option linter.unusedVariables false
set_option linter.unusedSimpArgs false
open Go.RowKit

set_option maxHeartbeats 1600000 in
theorem rmove_no (B : Nat) (most lost k : Int) (v : Value) (l : List (ByteArray × ByteArray)) (w : World) (hl : RefAt w B v l) (hk : k < 0 ∨ (l.length : Int) ≤ k) :
    Calls Try.prog 22 #[.agg #[.int .i64 most, v, .int .i64 lost], .int .i64 k] w fun e w' => e = .returned (.tuple #[.agg #[.int .i64 most, v, .int .i64 lost], .bool false]) ∧ Chg NoM w w' := by
  obtain ⟨Av, cv, rfl, _, _⟩ := Row.slice hl
  have HL := Lib.hid hl
  clear hl
  go_enter Try.func22, Try.ntmps22
  go_wp2_with fail
  refine (rtake_no B most lost k _ l _ (HL.out.chgNo (((Chg.refl w).alloc _).alloc _)) hk).mono ?_
  rintro e w1 ⟨rfl, hc1⟩
  have C1 : Hid (Chg NoM w w1) := (((Chg.refl w).alloc _).alloc _).trans hc1
  have q1 : w1.heap[w.heap.size]? = some (.cells #[.int .i64 most, .slice Av l.length cv, .int .i64 lost] 33 (0, 0)) := hc1.blkNo (blk_alloc (blk_new w _) _)
  have q2 : w1.heap[w.heap.size + 1]? = some (.cells #[.int .i64 0, .slice none 0 0, .int .i64 0] 33 (0, 0)) := hc1.blkNo (by simpa using blk_new (w.alloc _) _)
  have s1 : w.heap.size + 2 ≤ w1.heap.size := by have := hc1.size; simpa using this
  clear hc1
  have n1 : w.heap.size + 1 < w1.heap.size := by omega
  have n2 : w.heap.size < w1.heap.size := by omega
  have n3 : w.heap.size + 1 ≠ w1.heap.size := by omega
  have n4 : w.heap.size ≠ w1.heap.size := by omega
  have n5 : w.heap.size ≠ w1.heap.size + 1 := by omega
  have n6 : w.heap.size + 1 < w1.heap.size + 1 := by omega
  have n7 : w.heap.size < w1.heap.size + 1 := by omega
  have q1_c0 := blk_cell q1 0; have q1_f0 := blk_free q1 0; have q1_c1 := blk_cell q1 1; have q1_f1 := blk_free q1 1; have q1_c2 := blk_cell q1 2; have q1_f2 := blk_free q1 2; have H_q1 := Lib.hid q1; clear q1
  have q2_c0 := blk_cell q2 0; have q2_f0 := blk_free q2 0; have q2_c1 := blk_cell q2 1; have q2_f1 := blk_free q2 1; have q2_c2 := blk_cell q2 2; have q2_f2 := blk_free q2 2; have H_q2 := Lib.hid q2; clear q2
  go_wp2_with fail
  refine bodyPost_ret (v := .tuple #[.agg #[.int .i64 most, .slice Av l.length cv, .int .i64 lost], .bool false]) (by simp [results, Try.results22, go_sem, q1_c0, q1_c1, q1_c2, q2_c0, q2_c1, q2_c2, n1, n2, n3, n4, n5, n6, n7]) rfl ⟨rfl, ?_⟩
  repeat (first | exact C1.out | apply Chg.alloc | refine Chg.setNew ?_ (by omega))

set_option maxHeartbeats 2000000 in
theorem rmove_yes (B : Nat) (most lost : Int) (k : Nat) (v : Value) (l : List (ByteArray × ByteArray)) (p : ByteArray × ByteArray) (w : World) (hl : RefAt w B v l) (hp : l[k]? = some p) (hlen : l.length ≤ 1000) :
    Calls Try.prog 22 #[.agg #[.int .i64 most, v, .int .i64 lost], .int .i64 k] w fun e w' => ∃ v', e = .returned (.tuple #[.agg #[.int .i64 most, v', .int .i64 lost], .bool true]) ∧ RefAt w' w.heap.size v' (l.take k ++ l.drop (k + 1) ++ [p]) ∧ Chg NoM w w' := by
  obtain ⟨Av, cv, rfl, _, _⟩ := Row.slice hl
  have HL := Lib.hid hl
  have HP := Lib.hid hp
  have hk : k < l.length := (List.getElem?_eq_some_iff.1 hp).1
  clear hl hp
  go_enter Try.func22, Try.ntmps22
  go_wp2_with fail
  refine (rtake_yes B most lost k _ l p _ (HL.out.chgNo (((Chg.refl w).alloc _).alloc _)) HP.out hlen).mono ?_
  rintro e w1 ⟨v1, rfl, hr1, hc1⟩
  have hl4 : (l.take k ++ l.drop (k + 1)).length + 1 = l.length := by rw [List.length_append, List.length_take, List.length_drop]; omega
  obtain ⟨R4, hR4⟩ : ∃ R, R = l.take k ++ l.drop (k + 1) := ⟨_, rfl⟩
  rw [← hR4] at hr1 hl4
  have HR4 := Lib.hid hR4
  have C1 : Hid (Chg NoM w w1) := (((Chg.refl w).alloc _).alloc _).trans hc1
  have R1 : Hid (RefAt w1 (w.heap.size + 2) v1 R4) := hr1.base (by simp)
  have q1 : w1.heap[w.heap.size]? = some (.cells #[.int .i64 most, .slice Av l.length cv, .int .i64 lost] 33 (0, 0)) := hc1.blkNo (blk_alloc (blk_new w _) _)
  have q2 : w1.heap[w.heap.size + 1]? = some (.cells #[.int .i64 0, .slice none 0 0, .int .i64 0] 33 (0, 0)) := hc1.blkNo (by simpa using blk_new (w.alloc _) _)
  have s1 : w.heap.size + 2 ≤ w1.heap.size := by have := hc1.size; simpa using this
  obtain ⟨A4, c4, rfl, _, _⟩ := Row.slice hr1
  clear hc1 hr1 hR4
  have n1 : w.heap.size + 1 < w1.heap.size := by omega
  have n2 : w.heap.size < w1.heap.size := by omega
  have n3 : w.heap.size + 1 ≠ w1.heap.size := by omega
  have n4 : w.heap.size ≠ w1.heap.size := by omega
  have n5 : w.heap.size ≠ w1.heap.size + 1 := by omega
  have n6 : w.heap.size + 1 < w1.heap.size + 1 := by omega
  have n7 : w.heap.size < w1.heap.size + 1 := by omega
  have q1_c0 := blk_cell q1 0; have q1_f0 := blk_free q1 0; have q1_c1 := blk_cell q1 1; have q1_f1 := blk_free q1 1; have q1_c2 := blk_cell q1 2; have q1_f2 := blk_free q1 2; have H_q1 := Lib.hid q1; clear q1
  have q2_c0 := blk_cell q2 0; have q2_f0 := blk_free q2 0; have q2_c1 := blk_cell q2 1; have q2_f1 := blk_free q2 1; have q2_c2 := blk_cell q2 2; have q2_f2 := blk_free q2 2; have H_q2 := Lib.hid q2; clear q2
  have hR1 : R4.length ≤ 1000 := by omega
  go_wp2_with (refine wpList_append_Row _ rfl (.tmp 20) (.tmp 22) 31 rfl (w.heap.size + 2) 44 _ 2 32 Try.underlying31 Try.info44 rfl (by omega) (.slice A4 R4.length c4) R4.length (rcells R4) rfl ?d0 (some ⟨w1.heap.size + 1 + 1, 0, none⟩) 1 1 (rcells [p]) rfl ?dx ?d1 ?d2 ?d3 ?d4 ?d5 ?_)
  case d0 => exact Row.chg (M := NoM) R1.out ((((Chg.refl w1).alloc _).alloc _).alloc _) (fun _ _ _ _ _ h => h)
  case dx => rfl
  case d1 => exact fun _ => ⟨_, rfl, news_blk (cs := rcells [p]) (by simpa [rcells] using blk_new ((w1.alloc _).alloc _) _)⟩
  case d2 => exact rcells_cell _
  case d3 => omega
  case d4 => omega
  case d5 => simp; omega
  intro v2 w2 R2
  have C2 : Hid (Chg NoM w w2) := (((C1.out.alloc _).alloc _).alloc _).thenAll R2.chg (fun i o h => Nat.le_trans (by omega) (R1.out.own_ge h.own))
  have q3 : w2.heap[w.heap.size + 1]? = some (.cells #[.int .i64 0, .slice none 0 0, .int .i64 0] 33 (0, 0)) := R2.chg.block _ _ (blk_alloc (blk_alloc (blk_alloc H_q2.out _) _) _) (RowM.ne (by decide))
  have q4 : w2.heap[w1.heap.size]? = some (.cells #[.int .i64 most, .slice A4 R4.length c4, .int .i64 lost] 33 (0, 0)) := R2.chg.block _ _ (blk_alloc (blk_alloc (blk_new w1 _) _) _) (RowM.ne (by decide))
  obtain ⟨R5, hR5⟩ : ∃ R, R = R4 ++ [p] := ⟨_, rfl⟩
  have HR2 : Hid (Row w2 (w.heap.size + 2) 44 2 v2 R5.length (rcells R5)) := by
    have := R2.row
    rw [hR5, rcells_append, List.length_append, List.length_singleton]
    exact this
  have HR5 := Lib.hid hR5
  clear R2 hR5 q1_c0 q1_c1 q1_c2 q1_f0 q1_f1 q1_f2 q2_c0 q2_c1 q2_c2 q2_f0 q2_f1 q2_f2
  have q3_c0 := blk_cell q3 0; have q3_f0 := blk_free q3 0; have q3_c1 := blk_cell q3 1; have q3_f1 := blk_free q3 1; have q3_c2 := blk_cell q3 2; have q3_f2 := blk_free q3 2; have H_q3 := Lib.hid q3; clear q3
  have q4_c0 := blk_cell q4 0; have q4_f0 := blk_free q4 0; have q4_c1 := blk_cell q4 1; have q4_f1 := blk_free q4 1; have q4_c2 := blk_cell q4 2; have q4_f2 := blk_free q4 2; have H_q4 := Lib.hid q4; clear q4
  obtain ⟨A2, c2, rfl, _, _⟩ := HR2.out.slice
  go_wp2_with fail
  refine bodyPost_ret (v := .tuple #[.agg #[.int .i64 most, .slice A2 R5.length c2, .int .i64 lost], .bool true]) (by simp [results, Try.results22, go_sem, q3_c0, q3_c1, q3_c2, q4_c0, q4_c1, q4_c2, n1, n2, n3, n4, n5, n6, n7]) rfl ⟨_, rfl, ?_, ?_⟩
  · rw [← HR4.out, ← HR5.out]
    refine Row.base (Row.chg (M := fun k _ => k = w.heap.size + 1 ∨ k = w1.heap.size) HR2.out ?_ ?_) (by omega)
    · repeat (first | exact Chg.refl _ | (refine Chg.setCell ?_ (fun _ _ => .inl rfl) _) | (refine Chg.setCell ?_ (fun _ _ => .inr rfl) _))
    · rintro g _ _ hg _ (e | e)
      · exact HR2.out.own_ne H_q3.out (by decide) (by rw [hg, e])
      · exact HR2.out.own_ne H_q4.out (by decide) (by rw [hg, e])
  · repeat (first | exact C2.out | apply Chg.alloc | refine Chg.setNew ?_ (by omega))
end Go.Proofs.Ytmkjonfdeolihaa
