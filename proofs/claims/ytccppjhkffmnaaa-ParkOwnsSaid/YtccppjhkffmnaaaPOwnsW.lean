/- The walk of ParkOwns. -/
import Derived.Test.YtccppjhkffmnaaaRefQ
import Derived.Test.YtccppjhkffmnaaaTwiceW
namespace Go.Proofs.Ytccppjhkffmnaaa
set_option linter.unusedVariables false
set_option linter.unusedSimpArgs false
open Go.RowKit
set_option maxHeartbeats 4000000 in
theorem owns_walk (A : Option Addr) (ds : List Edu) (c : Nat) (w : World) (hds : RowsAt EduR 11 w A ds) (hlen : ds.length ≤ 9223372036854775807) :
    Calls Try.prog 5 #[.slice A ds.length c] w fun e w' => e = .returned (.bool true) ∧ Below w.heap.size w w' := by
  have HD := Lib.hid hds
  have hg := guard32
  clear hds
  go_enter Try.func5, Try.ntmps5
  go_wp2_with fail
  refine (new_yes 6 _ (by omega) (by omega)).mono ?_
  rintro e w1 ⟨rfl, hp, hs, hc⟩
  have C1 := Lib.hid hc
  have P1 := Lib.hid hp
  have S1 := Lib.hid hs
  clear hp hs hc
  go_wp2_with fail
  have C2 := Lib.hid (C1.out.alloc (.cells #[.int .i64 6, .slice none 0 0, .int .i64 0] 41))
  have B2 := Lib.hid (blk_new w1 (.cells #[.int .i64 6, .slice none 0 0, .int .i64 0] 41))
  have P2 : Hid (Pair (w1.alloc (.cells #[.int .i64 6, .slice none 0 0, .int .i64 0] 41)) w.heap.size w.heap.size 6 [] 0 (.slice none 0 0) none) := ⟨P1.out.chgNo ((Chg.refl w1).alloc _), fun h => absurd h (by simp), fun g off x h => by cases h⟩
  have N1 : Hid (w.heap.size < w1.heap.size) := lt_of_blk P1.out.2.1
  go_loopw [6] (fun i wr => ∃ (k : Nat) (l : List Edu) (lost : Int) (v : Value) (B : Option Addr) (cb : Nat), k ≤ ds.length ∧ k ≤ 6 ∧ i = .int .i64 k ∧ Hid (Pair wr w.heap.size w.heap.size 6 l lost v B) ∧ Hid (wr.heap[w1.heap.size]? = some (.cells #[.int .i64 6, .slice B l.length cb, .int .i64 lost] 41 (0, 0))) ∧ Hid (∀ g off x, B = some ⟨g, off, x⟩ → w1.heap.size < g) ∧ (l.length : Int) ≤ 6 ∧ 0 ≤ lost ∧ lost ≤ k ∧ Hid (Chg NoM w wr)) (fun i _ => ds.length - (intOf i).toNat)
  case atStart => exact ⟨0, [], 0, _, none, 0, by omega, by omega, rfl, P2, B2, (fun _ _ _ h => by cases h), by simp, by omega, by omega, C2⟩
  case round =>
    obtain ⟨k, l, lost, v, B, cb, hk, hk8, rfl, P, BX, FB, hln, hl0, hlk, C⟩ := hrel
    by_cases hlt : k < ds.length
    · by_cases h8 : k < 6
      · obtain ⟨b, off, d, rfl, hc, hbd, hbw, hd⟩ := edu_at HD.out C.out k hlt
        have x_0 := hc 0 (by omega)
        have x_1 := hc 1 (by omega)
        have x_2 := hc 2 (by omega)
        have x_3 := hc 3 (by omega)
        have x_4 := hc 4 (by omega)
        have x_5 := hc 5 (by omega)
        have x_6 := hc 6 (by omega)
        have x_7 := hc 7 (by omega)
        have x_8 := hc 8 (by omega)
        have x_9 := hc 9 (by omega)
        have x_10 := hc 10 (by omega)
        simp only [Edu.cells, List.getElem?_cons_zero, List.getElem?_cons_succ, List.getElem?_toArray, Nat.add_zero] at x_0 x_1 x_2 x_3 x_4 x_5 x_6 x_7 x_8 x_9 x_10
        have WB : Hid (∀ V, Calls Try.prog 12 #[d.agg] V fun en w' => ∃ f : Edu, en = .returned f.agg ∧ Chg NoM V w') := fun V => waits_b d V hbd
        have i0 : (0 : Int) ≤ (k : Int) := by omega
        have i1 : (k : Int) < (ds.length : Int) := by omega
        have i2 : (k : Int) < 6 := by omega
        unfold Edu.agg at WB
        clear hc hbd hd
        go_wp2_with fail
        refine (WB.out _).mono ?_
        rintro en w3 ⟨f, rfl, hc3⟩
        have C3 := Lib.hid (C.out.trans hc3)
        have P3 := Lib.hid (P.out.chgNo hc3)
        have BX3 := Lib.hid (hc3.blkNo BX.out)
        clear hc3 WB
        go_wp2_with (refine wpList_load_row rfl 41 (.tmp 5) rfl w1.heap.size rfl 41 #[.int .i64 6, .slice B l.length cb, .int .i64 lost] (0, 0) _ (blk_alloc BX3.out _) Try.underlying41 rfl (by kernel_rfl) ?_)
        refine (rput_eq B cb 6 lost l f _ (P3.out.ref.chgNo ((Chg.refl w3).alloc _)) hln (by omega) (by omega) hl0 (by omega)).mono ?_
        rintro en w4 ⟨B', cb', rfl, hr4, hf4, hc4⟩
        have E4 := Lib.hid ((((Chg.refl w3).alloc _)).trans hc4)
        have H4 := Lib.hid ((P3.out.chgNo ((Chg.refl w3).alloc _)).half hr4 hf4 hc4)
        have C4 := Lib.hid (C3.out.trans E4.out)
        have BX4 := Lib.hid (E4.out.blkNo BX3.out)
        have BF4 := Lib.hid (hc4.blkNo (blk_new w3 (.cells f.arr 32)))
        have hpl := putL_len (e := f) hln
        have hcb := putC_bd 6 lost l f
        have FB4 : Hid (∀ g off x, B' = some ⟨g, off, x⟩ → w1.heap.size < g) := by
          intro g off x h
          rcases hf4 g off x h with h' | h'
          · exact FB.out g off x (h' ▸ h)
          · have := lt_of_blk BX3.out; have h1 := h'.1; simp at h1; omega
        clear hr4 hf4 hc4
        go_wp2_with (refine wpList_store_row rfl 41 (.tmp 5) (.tmp 46) rfl w1.heap.size rfl #[.int .i64 6, .slice B' (putL 6 l f).length cb', .int .i64 (putC 6 lost l f)] rfl 41 #[.int .i64 6, .slice B l.length cb, .int .i64 lost] (blk_alloc (blk_alloc BX4.out _) _) (by kernel_rfl) rfl (by simp [Value.oneCell']) ?_)
        intro w5 hb5 hc5 hs5
        have E5 : Hid (Chg (BoxM w1.heap.size 41) w4 w5) := (((Chg.refl w4).alloc _).alloc _).trans hc5
        have BX5 := Lib.hid hb5
        clear hb5 hc5 hs5
        have H5 : Hid (Half w5 w.heap.size w.heap.size 6 l lost v B' (putL 6 l f)) :=
          ⟨H4.out.park.chg E5.out (fun _ _ => BoxM.ne (by decide)) (fun _ _ _ _ => BoxM.ne (by decide)), H4.out.ref.chg E5.out (fun g off o hA _ h => by have := FB4.out g off none hA; have := h.1; omega), fun g off x hA => ⟨Nat.lt_of_lt_of_le (H4.out.sep g off x hA).1 E5.out.size, (H4.out.sep g off x hA).2⟩⟩
        have C5 : Hid (Chg NoM w w5) := C4.out.thenAll E5.out (fun i o h => by rw [h.1]; exact Nat.le_of_lt N1.out)
        have BF5 := E5.out.block _ _ BF4.out (BoxM.ne (by decide))
        have hb : ∀ j, j < 11 → w5.cell? ⟨w3.heap.size, j, none⟩ = f.arr[j]? := fun j _ => blk_cell BF5 j
        have y_0 := hb 0 (by omega)
        have y_1 := hb 1 (by omega)
        have y_2 := hb 2 (by omega)
        have y_3 := hb 3 (by omega)
        have y_4 := hb 4 (by omega)
        have y_5 := hb 5 (by omega)
        have y_6 := hb 6 (by omega)
        have y_7 := hb 7 (by omega)
        have y_8 := hb 8 (by omega)
        have y_9 := hb 9 (by omega)
        have y_10 := hb 10 (by omega)
        simp only [Edu.cells, List.getElem?_cons_zero, List.getElem?_cons_succ, List.getElem?_toArray, Nat.add_zero] at y_0 y_1 y_2 y_3 y_4 y_5 y_6 y_7 y_8 y_9 y_10
        clear hb
        go_wp2_with fail
        refine (put_eq w.heap.size w.heap.size 6 lost l v f w5 H5.out.park hln (by omega) hl0 (by omega)).mono ?_
        rintro en w6 ⟨rfl, v', hp6, ho6, hc6⟩
        have P6 := Lib.hid (H5.out.pair hp6 ho6 hc6)
        have nb : w.heap.size ≠ w1.heap.size := by have := N1.out; omega
        have BX6 := Lib.hid (hc6.block _ _ BX5.out (ParkX.ne (by decide) (by decide)))
        have C6 : Hid (Chg NoM w w6) := C5.out.thenAll hc6 (fun i o h => by exact ParkX.new H5.out.park i o h)
        clear hp6 ho6 hc6
        go_wp2_with fail
        exact ⟨⟨k + 1, putL 6 l f, putC 6 lost l f, v', B', cb', by omega, by omega, by go_num, P6, BX6, FB4, hpl, by omega, by omega, C6⟩, by simp [intOf]; omega⟩
      · obtain rfl : k = 6 := by omega
        go_wp2_with fail
        refine (all_any w.heap.size w.heap.size 6 lost l v wr P.out.park (by omega)).mono ?_
        rintro en w4 ⟨va, rfl, hr4, hc4⟩
        obtain ⟨Aa, ca, rfl, _, _⟩ := Row.slice hr4
        have HA : Hid (0 < l.length → ∃ g cur, Aa = some ⟨g, 0, none⟩ ∧ wr.heap.size ≤ g ∧ w4.heap[g]? = some (.cells cur 32 (0, 0)) ∧ l.length * 11 ≤ cur.size) := by
          intro h0
          obtain ⟨g, cap, he, hbg, h1, _, ⟨cur, hcur, hsz⟩, _⟩ := Row.cells hr4 h0
          cases he
          exact ⟨g, cur, rfl, hbg, hcur, Nat.le_trans (Nat.mul_le_mul_right _ h1) hsz⟩
        have C4 := Lib.hid hc4
        clear hc4 hr4
        obtain ⟨wq, hwq⟩ : ∃ wq : World, wq = wr := ⟨_, rfl⟩
        rw [← hwq] at C4 HA P BX C
        clear hwq
        go_wp2_with fail
        go_loopw [12] (fun i wr => ∃ j : Nat, j ≤ l.length ∧ i = .int .i64 j ∧ Hid (0 < l.length → ∃ g cur, Aa = some ⟨g, 0, none⟩ ∧ wq.heap.size ≤ g ∧ wr.heap[g]? = some (.cells cur 32 (0, 0)) ∧ l.length * 11 ≤ cur.size) ∧ Hid (Chg NoM wq wr)) (fun i _ => l.length - (intOf i).toNat)
        case atStart => exact ⟨0, by omega, rfl, HA, C4⟩
        case round =>
          obtain ⟨j, hj, rfl, HB, D⟩ := hrel
          by_cases hjl : j < l.length
          · obtain ⟨g, cur, rfl, hbg, hcur, hsz⟩ := HB.out (by omega)
            have q1 : wr.cell? ⟨g, j * 11 + 1, none⟩ = some cur[j * 11 + 1] := by rw [blk_cell hcur, Array.getElem?_eq_getElem (by omega)]
            have f1 : wr.frozen? ⟨g, j * 11 + 1, none⟩ = false := blk_free hcur _
            have i0 : (0 : Int) ≤ (j : Int) := by omega
            have i1 : (j : Int) < (l.length : Int) := by omega
            have HCUR := Lib.hid hcur
            clear hcur
            go_wp2_with fail
            refine ⟨⟨j + 1, by omega, by go_num, fun _ => ⟨g, _, rfl, hbg, blk_set HCUR.out _ _, by simp; omega⟩, D.out.setNew hbg⟩, by simp [intOf]; omega⟩
          · have PD := Lib.hid (P.out.chgNo D.out)
            have BXD := Lib.hid (D.out.blkNo BX.out)
            go_wp2_with fail
            refine wp_region_sig 4 (fun w' => Chg NoM wr w') [.P [0, 2], .L [3], .K 1, .N [4, 5, 6, 7, 8]] rfl (fun _ _ d _ _ h => by cases d <;> exact h) (fun _ h => h) (by kernel_rfl) ((Chg.refl _).drew) ?_
            apply sigP (Nat.le_refl _)
            · intro w'
              (simp only [wpPl, pickOps, List.filterMap_cons, List.filterMap_nil, List.getElem?_toArray, List.getElem?_cons_zero, List.getElem?_cons_succ]; iterate 2 (go_wp2; refine ⟨trivial, ?_⟩)); rfl
            apply sigL (by simp)
            · intro w' hS
              have y1 := blk_cell (hS.blkNo BXD.out) 1
              (simp only [wpPl, pickOps, List.filterMap_cons, List.filterMap_nil, List.getElem?_toArray, List.getElem?_cons_zero, List.getElem?_cons_succ]; iterate 1 (go_wp2; refine ⟨trivial, ?_⟩)); rfl
            apply sigK
            simp only [pickOps, List.filterMap_cons, List.filterMap_nil, List.getElem?_toArray, List.getElem?_cons_zero, List.getElem?_cons_succ]
            go_wp2_with fail
            refine (all_any w.heap.size w.heap.size 6 lost l v wr.drew (PD.out.park.chgNo ((Chg.refl wr).drew)) (by omega)).mono ?_
            rintro en w8 ⟨vb, rfl, hr8, hc8⟩
            obtain ⟨Ab, cb8, rfl, _, _⟩ := Row.slice hr8
            have D8 := Lib.hid (Chg.ofDrew hc8)
            have SM := Lib.hid (same_eo Ab B cb8 cb l w8 (EO.of hr8) (PD.out.ref.chgNo D8.out) (by omega))
            clear hr8 hc8
            go_wp2_with fail
            refine ⟨D8.out, ?_⟩
            apply sigN
            simp only [pickOps, List.filterMap_cons, List.filterMap_nil, List.getElem?_toArray, List.getElem?_cons_zero, List.getElem?_cons_succ]
            go_wp2_with fail
            refine SM.out.mono ?_
            rintro en w9 ⟨rfl, hc9⟩
            have D9 := Lib.hid (D8.out.trans hc9)
            clear hc9 SM
            go_wp2_with fail
            refine (lives_true _).mono ?_
            rintro en w10 ⟨rfl, hc10⟩
            have D10 := Lib.hid (D9.out.trans hc10)
            clear hc10
            go_wp2_with fail
            apply sigEnd
            go_wp2_with fail
            go_ret
            exact ⟨rfl, below_of_chg ((C.out.trans D.out).trans D10.out)⟩
    · obtain rfl : ds.length = k := by omega
      go_wp2_with fail
      refine (all_any w.heap.size w.heap.size 6 lost l v wr P.out.park (by omega)).mono ?_
      rintro en w4 ⟨va, rfl, hr4, hc4⟩
      obtain ⟨Aa, ca, rfl, _, _⟩ := Row.slice hr4
      have HA : Hid (0 < l.length → ∃ g cur, Aa = some ⟨g, 0, none⟩ ∧ wr.heap.size ≤ g ∧ w4.heap[g]? = some (.cells cur 32 (0, 0)) ∧ l.length * 11 ≤ cur.size) := by
        intro h0
        obtain ⟨g, cap, he, hbg, h1, _, ⟨cur, hcur, hsz⟩, _⟩ := Row.cells hr4 h0
        cases he
        exact ⟨g, cur, rfl, hbg, hcur, Nat.le_trans (Nat.mul_le_mul_right _ h1) hsz⟩
      have C4 := Lib.hid hc4
      clear hc4 hr4
      obtain ⟨wq, hwq⟩ : ∃ wq : World, wq = wr := ⟨_, rfl⟩
      rw [← hwq] at C4 HA P BX C
      clear hwq
      go_wp2_with fail
      go_loopw [12] (fun i wr => ∃ j : Nat, j ≤ l.length ∧ i = .int .i64 j ∧ Hid (0 < l.length → ∃ g cur, Aa = some ⟨g, 0, none⟩ ∧ wq.heap.size ≤ g ∧ wr.heap[g]? = some (.cells cur 32 (0, 0)) ∧ l.length * 11 ≤ cur.size) ∧ Hid (Chg NoM wq wr)) (fun i _ => l.length - (intOf i).toNat)
      case atStart => exact ⟨0, by omega, rfl, HA, C4⟩
      case round =>
        obtain ⟨j, hj, rfl, HB, D⟩ := hrel
        by_cases hjl : j < l.length
        · obtain ⟨g, cur, rfl, hbg, hcur, hsz⟩ := HB.out (by omega)
          have q1 : wr.cell? ⟨g, j * 11 + 1, none⟩ = some cur[j * 11 + 1] := by rw [blk_cell hcur, Array.getElem?_eq_getElem (by omega)]
          have f1 : wr.frozen? ⟨g, j * 11 + 1, none⟩ = false := blk_free hcur _
          have i0 : (0 : Int) ≤ (j : Int) := by omega
          have i1 : (j : Int) < (l.length : Int) := by omega
          have HCUR := Lib.hid hcur
          clear hcur
          go_wp2_with fail
          refine ⟨⟨j + 1, by omega, by go_num, fun _ => ⟨g, _, rfl, hbg, blk_set HCUR.out _ _, by simp; omega⟩, D.out.setNew hbg⟩, by simp [intOf]; omega⟩
        · have PD := Lib.hid (P.out.chgNo D.out)
          have BXD := Lib.hid (D.out.blkNo BX.out)
          go_wp2_with fail
          refine wp_region_sig 4 (fun w' => Chg NoM wr w') [.P [0, 2], .L [3], .K 1, .N [4, 5, 6, 7, 8]] rfl (fun _ _ d _ _ h => by cases d <;> exact h) (fun _ h => h) (by kernel_rfl) ((Chg.refl _).drew) ?_
          apply sigP (Nat.le_refl _)
          · intro w'
            (simp only [wpPl, pickOps, List.filterMap_cons, List.filterMap_nil, List.getElem?_toArray, List.getElem?_cons_zero, List.getElem?_cons_succ]; iterate 2 (go_wp2; refine ⟨trivial, ?_⟩)); rfl
          apply sigL (by simp)
          · intro w' hS
            have y1 := blk_cell (hS.blkNo BXD.out) 1
            (simp only [wpPl, pickOps, List.filterMap_cons, List.filterMap_nil, List.getElem?_toArray, List.getElem?_cons_zero, List.getElem?_cons_succ]; iterate 1 (go_wp2; refine ⟨trivial, ?_⟩)); rfl
          apply sigK
          simp only [pickOps, List.filterMap_cons, List.filterMap_nil, List.getElem?_toArray, List.getElem?_cons_zero, List.getElem?_cons_succ]
          go_wp2_with fail
          refine (all_any w.heap.size w.heap.size 6 lost l v wr.drew (PD.out.park.chgNo ((Chg.refl wr).drew)) (by omega)).mono ?_
          rintro en w8 ⟨vb, rfl, hr8, hc8⟩
          obtain ⟨Ab, cb8, rfl, _, _⟩ := Row.slice hr8
          have D8 := Lib.hid (Chg.ofDrew hc8)
          have SM := Lib.hid (same_eo Ab B cb8 cb l w8 (EO.of hr8) (PD.out.ref.chgNo D8.out) (by omega))
          clear hr8 hc8
          go_wp2_with fail
          refine ⟨D8.out, ?_⟩
          apply sigN
          simp only [pickOps, List.filterMap_cons, List.filterMap_nil, List.getElem?_toArray, List.getElem?_cons_zero, List.getElem?_cons_succ]
          go_wp2_with fail
          refine SM.out.mono ?_
          rintro en w9 ⟨rfl, hc9⟩
          have D9 := Lib.hid (D8.out.trans hc9)
          clear hc9 SM
          go_wp2_with fail
          refine (lives_true _).mono ?_
          rintro en w10 ⟨rfl, hc10⟩
          have D10 := Lib.hid (D9.out.trans hc10)
          clear hc10
          go_wp2_with fail
          apply sigEnd
          go_wp2_with fail
          go_ret
          exact ⟨rfl, below_of_chg ((C.out.trans D.out).trans D10.out)⟩
end Go.Proofs.Ytccppjhkffmnaaa
