/- Contracts: Few, packet, like. -/
import Derived.Test.YtmkjonfdeolihaaRef2
namespace Go.Proofs.Ytmkjonfdeolihaa
set_option linter.unusedVariables false
set_option linter.unusedSimpArgs false
open Go.RowKit

def fewS (s : ByteArray) (m : Nat) : ByteArray := if m < s.size then s.extract 0 m else s

set_option maxHeartbeats 400000 in
theorem few_any (s : ByteArray) (m : Nat) (w : World) (hs : s.size ≤ 9223372036854775807) (hm : m ≤ 1000) :
    Calls Try.prog 26 #[.string s, .int .i64 m] w fun e w' => e = .returned (.string (fewS s m)) ∧ w = w' := by
  by_cases h : m < s.size
  · have e : Hid (fewS s m = s.extract 0 m) := by unfold fewS; rw [if_pos h]; rfl
    have h' : (m : Int) < (s.size : Int) := by omega
    go_enter Try.func26, Try.ntmps26
    go_wp2
    go_ret
    exact ⟨by rw [e.out]; simp, rfl⟩
  · have e : Hid (fewS s m = s) := by unfold fewS; rw [if_neg h]; rfl
    have h' : ¬ (m : Int) < (s.size : Int) := by omega
    go_enter Try.func26, Try.ntmps26
    go_wp2
    go_ret
    exact ⟨by rw [e.out]; simp, rfl⟩

set_option maxHeartbeats 800000 in
theorem packet_big (dd kk : Int) (to : ByteArray) (A : Option Addr) (n c : Nat) (w : World) (hs : to.size ≤ 9223372036854775807) (hn : n ≤ c) (hc : c ≤ 9223372036854775807) (hk : 6 < n) :
    Calls Try.prog 11 #[.agg #[.int .i64 dd, .int .i64 kk, .string to, .slice A n c]] w fun e w' => e = .returned (.agg #[.string (fewS to 4), .slice A 6 c]) ∧ Chg NoM w w' := by
  have HF := Lib.hid (fun w => few_any to 4 w hs (by omega))
  go_enter Try.func11, Try.ntmps11
  go_wp2_with fail
  have cW : Chg NoM w ((w.alloc (.cells #[.int .i64 dd, .int .i64 kk, .string to, .slice A n c] 39)).alloc (.cells #[.string ⟨#[]⟩, .slice none 0 0] 36)) := ((Chg.refl w).alloc _).alloc _
  have b1 := blk_alloc (blk_new w (.cells #[.int .i64 dd, .int .i64 kk, .string to, .slice A n c] 39)) (.cells #[.string ⟨#[]⟩, .slice none 0 0] 36)
  have b2 : ((w.alloc (.cells #[.int .i64 dd, .int .i64 kk, .string to, .slice A n c] 39)).alloc (.cells #[.string ⟨#[]⟩, .slice none 0 0] 36)).heap[w.heap.size + 1]? = some (.cells #[.string ⟨#[]⟩, .slice none 0 0] 36 (0, 0)) := by simpa using blk_new (w.alloc _) _
  generalize (w.alloc (.cells #[.int .i64 dd, .int .i64 kk, .string to, .slice A n c] 39)).alloc (.cells #[.string ⟨#[]⟩, .slice none 0 0] 36) = W at cW b1 b2 ⊢
  have CW := Lib.hid cW
  have B1 := Lib.hid b1
  have B2 := Lib.hid b2
  clear cW b1 b2
  refine wp_region_sig 11 (fun w' => Chg NoM W w') [.L [0, 1, 3, 4, 5, 6, 7, 8, 9], .K 2, .L [10], .N [11]] rfl (fun _ _ d _ _ h => by cases d <;> exact h) (fun _ h => h) (by kernel_rfl) ((Chg.refl _).drew) ?_
  apply sigL (Nat.le_refl _)
  · intro w' hS
    have y0 := hS.blkNo B1.out
    have y0_c0 := blk_cell y0 0; have y0_f0 := blk_free y0 0; have y0_c1 := blk_cell y0 1; have y0_f1 := blk_free y0 1; have y0_c2 := blk_cell y0 2; have y0_f2 := blk_free y0 2; have y0_c3 := blk_cell y0 3; have y0_f3 := blk_free y0 3; have H_y0 := Lib.hid y0; clear y0
    (simp only [wpPl, pickOps, List.filterMap_cons, List.filterMap_nil, List.getElem?_toArray, List.getElem?_cons_zero, List.getElem?_cons_succ]; iterate 9 (go_wp2; refine ⟨trivial, ?_⟩)); rfl
  apply sigK
  simp only [pickOps, List.filterMap_cons, List.filterMap_nil, List.getElem?_toArray, List.getElem?_cons_zero, List.getElem?_cons_succ]
  go_wp2_with fail
  refine (HF.out _).mono ?_
  rintro e w1 ⟨rfl, rfl⟩
  go_wp2_with fail
  refine ⟨(Chg.refl W).drew, ?_⟩
  apply sigL (by simp)
  · intro w' hS
    (simp only [wpPl, pickOps, List.filterMap_cons, List.filterMap_nil, List.getElem?_toArray, List.getElem?_cons_zero, List.getElem?_cons_succ]; iterate 1 (go_wp2; refine ⟨trivial, ?_⟩)); rfl
  apply sigN
  simp only [pickOps, List.filterMap_cons, List.filterMap_nil, List.getElem?_toArray, List.getElem?_cons_zero, List.getElem?_cons_succ]
  have B2' : W.drew.heap[w.heap.size + 1]? = some (.cells #[.string ⟨#[]⟩, .slice none 0 0] 36 (0, 0)) := B2.out
  have CV : Hid (Chg NoM w W.drew) := CW.out.drew
  generalize W.drew = V at B2' CV ⊢
  have B2'_c0 := blk_cell B2' 0; have B2'_f0 := blk_free B2' 0; have B2'_c1 := blk_cell B2' 1; have B2'_f1 := blk_free B2' 1; have H_B2' := Lib.hid B2'; clear B2'
  go_wp2_with fail
  apply sigEnd
  go_wp2_with fail
  refine bodyPost_ret (v := .agg #[.string (fewS to 4), .slice A 6 c]) (by simp [results, Try.results11, go_sem, B2'_c0, B2'_c1]) rfl ⟨rfl, ?_⟩
  repeat (first | exact CV.out | apply Chg.alloc | refine Chg.setNew ?_ (by omega))
set_option maxHeartbeats 800000 in
theorem packet_small (dd kk : Int) (to : ByteArray) (A : Option Addr) (n c : Nat) (w : World) (hs : to.size ≤ 9223372036854775807) (hn : n ≤ c) (hc : c ≤ 9223372036854775807) (hk : n ≤ 6) :
    Calls Try.prog 11 #[.agg #[.int .i64 dd, .int .i64 kk, .string to, .slice A n c]] w fun e w' => e = .returned (.agg #[.string (fewS to 4), .slice A n c]) ∧ Chg NoM w w' := by
  have HF := Lib.hid (fun w => few_any to 4 w hs (by omega))
  go_enter Try.func11, Try.ntmps11
  go_wp2_with fail
  have cW : Chg NoM w ((w.alloc (.cells #[.int .i64 dd, .int .i64 kk, .string to, .slice A n c] 39)).alloc (.cells #[.string ⟨#[]⟩, .slice none 0 0] 36)) := ((Chg.refl w).alloc _).alloc _
  have b1 := blk_alloc (blk_new w (.cells #[.int .i64 dd, .int .i64 kk, .string to, .slice A n c] 39)) (.cells #[.string ⟨#[]⟩, .slice none 0 0] 36)
  have b2 : ((w.alloc (.cells #[.int .i64 dd, .int .i64 kk, .string to, .slice A n c] 39)).alloc (.cells #[.string ⟨#[]⟩, .slice none 0 0] 36)).heap[w.heap.size + 1]? = some (.cells #[.string ⟨#[]⟩, .slice none 0 0] 36 (0, 0)) := by simpa using blk_new (w.alloc _) _
  generalize (w.alloc (.cells #[.int .i64 dd, .int .i64 kk, .string to, .slice A n c] 39)).alloc (.cells #[.string ⟨#[]⟩, .slice none 0 0] 36) = W at cW b1 b2 ⊢
  have CW := Lib.hid cW
  have B1 := Lib.hid b1
  have B2 := Lib.hid b2
  clear cW b1 b2
  refine wp_region_sig 11 (fun w' => Chg NoM W w') [.L [0, 1, 3, 4, 5, 6, 7, 8, 9], .K 2, .L [10], .N [11]] rfl (fun _ _ d _ _ h => by cases d <;> exact h) (fun _ h => h) (by kernel_rfl) ((Chg.refl _).drew) ?_
  apply sigL (Nat.le_refl _)
  · intro w' hS
    have y0 := hS.blkNo B1.out
    have y0_c0 := blk_cell y0 0; have y0_f0 := blk_free y0 0; have y0_c1 := blk_cell y0 1; have y0_f1 := blk_free y0 1; have y0_c2 := blk_cell y0 2; have y0_f2 := blk_free y0 2; have y0_c3 := blk_cell y0 3; have y0_f3 := blk_free y0 3; have H_y0 := Lib.hid y0; clear y0
    (simp only [wpPl, pickOps, List.filterMap_cons, List.filterMap_nil, List.getElem?_toArray, List.getElem?_cons_zero, List.getElem?_cons_succ]; iterate 9 (go_wp2; refine ⟨trivial, ?_⟩)); rfl
  apply sigK
  simp only [pickOps, List.filterMap_cons, List.filterMap_nil, List.getElem?_toArray, List.getElem?_cons_zero, List.getElem?_cons_succ]
  go_wp2_with fail
  refine (HF.out _).mono ?_
  rintro e w1 ⟨rfl, rfl⟩
  go_wp2_with fail
  refine ⟨(Chg.refl W).drew, ?_⟩
  apply sigL (by simp)
  · intro w' hS
    (simp only [wpPl, pickOps, List.filterMap_cons, List.filterMap_nil, List.getElem?_toArray, List.getElem?_cons_zero, List.getElem?_cons_succ]; iterate 1 (go_wp2; refine ⟨trivial, ?_⟩)); rfl
  apply sigN
  simp only [pickOps, List.filterMap_cons, List.filterMap_nil, List.getElem?_toArray, List.getElem?_cons_zero, List.getElem?_cons_succ]
  have B2' : W.drew.heap[w.heap.size + 1]? = some (.cells #[.string ⟨#[]⟩, .slice none 0 0] 36 (0, 0)) := B2.out
  have CV : Hid (Chg NoM w W.drew) := CW.out.drew
  generalize W.drew = V at B2' CV ⊢
  have B2'_c0 := blk_cell B2' 0; have B2'_f0 := blk_free B2' 0; have B2'_c1 := blk_cell B2' 1; have B2'_f1 := blk_free B2' 1; have H_B2' := Lib.hid B2'; clear B2'
  go_wp2_with fail
  apply sigEnd
  go_wp2_with fail
  refine bodyPost_ret (v := .agg #[.string (fewS to 4), .slice A n c]) (by simp [results, Try.results11, go_sem, B2'_c0, B2'_c1]) rfl ⟨rfl, ?_⟩
  repeat (first | exact CV.out | apply Chg.alloc | refine Chg.setNew ?_ (by omega))
theorem packet_any (dd kk : Int) (to : ByteArray) (A : Option Addr) (n c : Nat) (w : World) (hs : to.size ≤ 9223372036854775807) (hn : n ≤ c) (hc : c ≤ 9223372036854775807) :
    Calls Try.prog 11 #[.agg #[.int .i64 dd, .int .i64 kk, .string to, .slice A n c]] w fun e w' => e = .returned (.agg #[.string (fewS to 4), .slice A (min n 6) c]) ∧ Chg NoM w w' := by
  by_cases h : 6 < n
  · rw [Nat.min_eq_right (by omega)]; exact packet_big dd kk to A n c w hs hn hc h
  · rw [Nat.min_eq_left (by omega)]; exact packet_small dd kk to A n c w hs hn hc (by omega)
end Go.Proofs.Ytmkjonfdeolihaa
