/- The walk of ParkPlays. -/
import Derived.Test.YtccppjhkffmnaaaFewP
namespace Go.Proofs.Ytccppjhkffmnaaa
set_option linter.unusedVariables false
set_option linter.unusedSimpArgs false
open Go.RowKit
theorem heap_size_alloc' (w : World) (o : Obj) : (w.alloc o).heap.size = w.heap.size + 1 := by simp
def BoolR (w : World) (d : Bool) (c : List Value) : Prop := c = [.bool d]
theorem bool_at {w wr : World} {A : Option Addr} {ds : List Bool} (h : RowsAt BoolR 1 w A ds) (hc : Chg NoM w wr) (k : Nat) (hk : k < ds.length) :
    ∃ b off d, A = some ⟨b, off, none⟩ ∧ wr.cell? ⟨b, off + k, none⟩ = some (.bool d) ∧ ds[k]? = some d := by
  obtain ⟨b, off, hA, hall⟩ := h.2.2 (by omega)
  obtain ⟨c, hcs, _, hcell⟩ := hall k _ (List.getElem?_eq_getElem hk)
  have hcs : c = [.bool ds[k]] := hcs
  subst hcs
  have c0 := hcell 0 _ rfl
  rw [Nat.mul_one, Nat.add_zero] at c0
  exact ⟨b, off, ds[k], hA, hc.cellNo c0, List.getElem?_eq_getElem hk⟩
def EduR2 (w : World) (d : Edu) (c : List Value) : Prop := EduR w d c ∧ EduZ d
theorem edu2_rows {w : World} {A : Option Addr} {ds : List Edu} (h : RowsAt EduR2 11 w A ds) : RowsAt EduR 11 w A ds ∧ ∀ d ∈ ds, EduZ d := by
  refine ⟨⟨h.1, fun d hd => ?_, fun hp => ?_⟩, fun d hd => ?_⟩
  · obtain ⟨c, hc⟩ := h.2.1 d hd
    exact ⟨c, hc.1⟩
  · obtain ⟨b, off, hA, hall⟩ := h.2.2 hp
    refine ⟨b, off, hA, fun i d hi => ?_⟩
    obtain ⟨c, hc, r⟩ := hall i d hi
    exact ⟨c, hc.1, r⟩
  · obtain ⟨c, hc⟩ := h.2.1 d hd
    exact hc.2
set_option maxRecDepth 20000 in
set_option maxHeartbeats 8000000 in
theorem plays_walk (most : Int) (A : Option Addr) (ds : List Edu) (c : Nat) (T : Option Addr) (tl : List Bool) (ct : Nat) (w : World) (h1 : -9223372036854775808 ≤ most) (h2 : most ≤ 9223372036854775807) (hds : RowsAt EduR2 11 w A ds) (htl : RowsAt BoolR 1 w T tl) (hlen : ds.length ≤ 9223372036854775807) (hlen2 : tl.length ≤ 9223372036854775807) :
    Calls Try.prog 6 #[.int .i64 most, .slice A ds.length c, .slice T tl.length ct] w fun e w' => e = .returned (.bool true) ∧ Below w.heap.size w w' := by
  have HD := Lib.hid (edu2_rows hds).1
  have HZ := Lib.hid (edu2_rows hds).2
  have HT := Lib.hid htl
  have hg := guard32
  have hb := aroundI_bd most 6 (by omega)
  have A0 := Lib.hid (around_any most 6 w h1 h2 (by omega) (by omega))
  obtain ⟨u, hu⟩ : ∃ x, x = aroundI most 6 := ⟨_, rfl⟩
  rw [← hu] at hb A0
  obtain ⟨hb1, hb2⟩ := hb
  clear hu hds htl h1 h2
  go_enter Try.func6, Try.ntmps6
  go_wp2_with fail
  refine A0.out.mono ?_
  rintro e w' ⟨rfl, rfl⟩
  obtain ⟨n, hn⟩ : ∃ n, n = 1 + u := ⟨_, rfl⟩
  have hn1 : 1 ≤ n := by omega
  have hn2 : n ≤ 6 := by omega
  go_wp2_with fail
  try rw [← hn]
  clear hn hb1 hb2
  go_loopw [8] (fun h wr => ∃ hw : Nat, hw ≤ 2 ∧ h = .int .i64 hw ∧ Hid (Chg NoM w wr)) (fun h _ => 2 - (intOf h).toNat)
  case atStart => exact ⟨0, by omega, rfl, Chg.refl w⟩
  case round =>
    obtain ⟨hw, hhw, rfl, C0⟩ := hrel
    obtain ⟨wo, hwo⟩ : ∃ wo : World, wo = wr := ⟨_, rfl⟩
    rw [← hwo] at C0 ⊢
    clear hwo
    obtain ⟨hz, hhz⟩ : ∃ z : Int, z = (hw : Int) := ⟨_, rfl⟩
    rw [← hhz]
    have HHZ := Lib.hid hhz
    by_cases hw2 : hw < 2
    · have j0 : 0 ≤ hz := by omega
      have j2 : hz < 2 := by omega
      clear hhz
      go_wp2_with fail
      refine (new_yes n _ (by omega) (by omega)).mono ?_
      rintro e w1 ⟨rfl, hp, hs, hc⟩
      have C1 := Lib.hid (C0.out.trans hc)
      have P1 := Lib.hid hp
      clear hp hs hc
      go_wp2_with fail
      have C2 := Lib.hid (C1.out.alloc (.cells #[.int .i64 n, .slice none 0 0, .int .i64 0] 41))
      have B2 := Lib.hid (blk_new w1 (.cells #[.int .i64 n, .slice none 0 0, .int .i64 0] 41))
      have P2 : Hid (Pair (w1.alloc (.cells #[.int .i64 n, .slice none 0 0, .int .i64 0] 41)) wo.heap.size wo.heap.size n [] 0 (.slice none 0 0) none) := ⟨P1.out.chgNo ((Chg.refl w1).alloc _), fun h => absurd h (by simp), fun g off x h => by cases h⟩
      have N1 : Hid (wo.heap.size < w1.heap.size) := lt_of_blk P1.out.2.1
      have NW : Hid (w.heap.size ≤ wo.heap.size) := C0.out.size
      go_loopw [12] (fun i wr => ∃ (k : Nat) (l : List Edu) (lost : Int) (v : Value) (B : Option Addr) (cb : Nat), k ≤ ds.length ∧ k ≤ 16 ∧ i = .int .i64 k ∧ Hid (Pair wr wo.heap.size wo.heap.size n l lost v B) ∧ Hid (wr.heap[w1.heap.size]? = some (.cells #[.int .i64 n, .slice B l.length cb, .int .i64 lost] 41 (0, 0))) ∧ Hid (∀ g off x, B = some ⟨g, off, x⟩ → w1.heap.size < g) ∧ (l.length : Int) ≤ n ∧ 0 ≤ lost ∧ lost ≤ k ∧ Hid (Chg NoM w wr)) (fun i _ => ds.length - (intOf i).toNat)
      case atStart => exact ⟨0, [], 0, _, none, 0, by omega, by omega, rfl, P2, B2, (fun _ _ _ h => by cases h), by simp; omega, by omega, by omega, C2⟩
      case round =>
        obtain ⟨k, l, lost, v, B, cb, hk, hk16, rfl, P, BX, FB, hln, hl0, hlk, C⟩ := hrel
        by_cases hlt : k < ds.length
        · by_cases h16 : k < 16
          · have i0 : (0 : Int) ≤ (k : Int) := by omega
            have i1 : (k : Int) < (ds.length : Int) := by omega
            have i2 : (k : Int) < 16 := by omega
            obtain ⟨b, off, d, rfl, hc0, hbd, hbw, hd⟩ := edu_at HD.out C.out k hlt
            have HC0 := Lib.hid hc0
            have WB : Hid (∀ V, Calls Try.prog 12 #[d.agg] V fun en w' => ∃ f : Edu, en = .returned f.agg ∧ Chg NoM V w') := fun V => waits_b d V hbd
            have FW : Hid (∀ V, Calls Try.prog 17 #[d.agg] V fun en w' => ∃ f : Edu, en = .returned f.agg ∧ Chg NoM V w') := fun V => few3_some d V (HZ.out d (List.mem_of_getElem? hd))
            have hc := hc0
            have x_0 := hc 0 (by omega)
            have x_1 := hc 1 (by omega)
            have x_2 := hc 2 (by omega)
            have x_3 := hc 3 (by omega)
            have x_4 := hc 4 (by omega)
            have x_5 := hc 5 (by omega)
            have x_6 := hc 6 (by omega)
            have x_7 := hc 7 (by omega)
            have x_8 := hc 8 (by omega)
            have x_9 := hc 9 (by omega)
            have x_10 := hc 10 (by omega)
            simp only [Edu.cells, List.getElem?_cons_zero, List.getElem?_cons_succ, List.getElem?_toArray, Nat.add_zero] at x_0 x_1 x_2 x_3 x_4 x_5 x_6 x_7 x_8 x_9 x_10
            unfold Edu.agg at WB FW
            clear hc hc0 hbd hd
            go_wp2_with fail
            refine (WB.out _).mono ?_
            rintro en w3 ⟨fe, rfl, hc3⟩
            clear x_0 x_1 x_2 x_3 x_4 x_5 x_6 x_7 x_8 x_9 x_10 WB
            have E3 := Lib.hid hc3
            clear hc3
            by_cases hw0 : hw = 0
            · have hzf : (hz == 1) = false := by have := HHZ.out; simp; omega
              go_wp2_with (refine wpList_store_row rfl 32 (.tmp 13) (.tmp 55) rfl w3.heap.size rfl fe.arr rfl 32 zarr (blk_new w3 _) (by kernel_rfl) rfl (arr_one fe) ?_)
              intro wy hbe hcy hsy
              have BE := Lib.hid hbe
              have EY : Hid (Chg NoM wr wy) := (E3.out.alloc _).thenAll hcy (fun i o h => by rw [h.1]; exact E3.out.size)
              obtain ⟨eb, heb⟩ : ∃ eb, eb = w3.heap.size := ⟨_, rfl⟩
              have EB : Hid (wr.heap.size ≤ eb) := by rw [heb]; exact E3.out.size
              rw [← heb] at BE ⊢
              clear hbe hcy hsy heb
              have PY := Lib.hid (P.out.chgNo EY.out)
              have BXY := Lib.hid (EY.out.blkNo BX.out)
              have LB1 : Hid (w1.heap.size < wr.heap.size) := lt_of_blk BX.out
              have hyt := EY.out
              by_cases hka : k < tl.length
              · obtain ⟨b2, off2, a, rfl, e1, -⟩ := bool_at HT.out (C.out.trans hyt) k hka
                have j1 : (k : Int) < (tl.length : Int) := by omega
                have hmin : min (k : Int) ((tl.length : Int) - 1) = (k : Int) := by omega
                cases a
                · skip
                  have hb : ∀ j, j < 11 → wy.cell? ⟨eb, j, none⟩ = fe.arr[j]? := fun j _ => blk_cell BE.out j
                  have z_0 := hb 0 (by omega)
                  have z_1 := hb 1 (by omega)
                  have z_2 := hb 2 (by omega)
                  have z_3 := hb 3 (by omega)
                  have z_4 := hb 4 (by omega)
                  have z_5 := hb 5 (by omega)
                  have z_6 := hb 6 (by omega)
                  have z_7 := hb 7 (by omega)
                  have z_8 := hb 8 (by omega)
                  have z_9 := hb 9 (by omega)
                  have z_10 := hb 10 (by omega)
                  simp only [Edu.cells, List.getElem?_cons_zero, List.getElem?_cons_succ, List.getElem?_toArray, Nat.add_zero] at z_0 z_1 z_2 z_3 z_4 z_5 z_6 z_7 z_8 z_9 z_10
                  clear hb
                  have PQ := Lib.hid (fun V hV => put_eq wo.heap.size wo.heap.size n lost l v fe V hV hln (by omega) hl0 (by omega))
                  have RQ := Lib.hid (rput_eq B cb n lost l fe wy PY.out.ref hln (by omega) (by omega) hl0 (by omega))
                  have hpl := putL_len (e := fe) hln
                  have hcb := putC_bd n lost l fe
                  generalize putL n l fe = L2 at PQ RQ hpl
                  generalize putC n lost l fe = lo2 at PQ RQ hcb
                  generalize putZ n l fe = Z at PQ RQ
                  generalize putG n l fe = G at PQ RQ
                  unfold Edu.agg at PQ RQ
                  obtain ⟨hcb1, hcb2⟩ := hcb
                  have lo0 : 0 ≤ lo2 := by omega
                  have lo1 : lo2 ≤ (k : Int) + 1 := by omega
                  clear hcb1 hcb2 hlk
                  go_wp2_with (refine wpList_load_row rfl 41 (.tmp 11) rfl w1.heap.size rfl 41 #[.int .i64 n, .slice B l.length cb, .int .i64 lost] (0, 0) _ BXY.out Try.underlying41 rfl (by kernel_rfl) ?_)
                  refine RQ.out.mono ?_
                  rintro en w4 ⟨B4, cb4, rfl, hr4, hf4, hc4⟩
                  have E4 := Lib.hid hc4
                  have H4 := Lib.hid (PY.out.half hr4 hf4 hc4)
                  have BX4 := Lib.hid (hc4.blkNo BXY.out)
                  have BE4 := Lib.hid (hc4.blkNo BE.out)
                  have FB4 : Hid (∀ g off x, B4 = some ⟨g, off, x⟩ → w1.heap.size < g) := by
                    intro g off x h
                    rcases hf4 g off x h with h' | h'
                    · exact FB.out g off x (h' ▸ h)
                    · have := LB1.out; have := EY.out.size; have := h'.1; omega
                  clear hr4 hf4 hc4 RQ z_0 z_1 z_2 z_3 z_4 z_5 z_6 z_7 z_8 z_9 z_10
                  go_wp2_with (refine wpList_store_row rfl 41 (.tmp 11) (.tmp 103) rfl w1.heap.size rfl #[.int .i64 n, .slice B4 L2.length cb4, .int .i64 lo2] rfl 41 #[.int .i64 n, .slice B l.length cb, .int .i64 lost] (blk_alloc (blk_alloc BX4.out _) _) (by kernel_rfl) rfl (by simp [Value.oneCell']) ?_)
                  intro w5 hb5 hc5 hs5
                  have E5 : Hid (Chg (BoxM w1.heap.size 41) w4 w5) := (((Chg.refl w4).alloc _).alloc _).trans hc5
                  have BX5 := Lib.hid hb5
                  have bz5 : w5.heap[w4.heap.size + 1]? = some (.cells Z.arr 32 (0, 0)) := by
                    have h := hc5.block _ _ (blk_new (w4.alloc _) _) (BoxM.ne (by decide))
                    simp only [heap_size_alloc'] at h
                    exact h
                  have BZ5 := Lib.hid bz5
                  have H5 : Hid (Half w5 wo.heap.size wo.heap.size n l lost v B4 L2) :=
                    ⟨H4.out.park.chg E5.out (fun _ _ => BoxM.ne (by decide)) (fun _ _ _ _ => BoxM.ne (by decide)), H4.out.ref.chg E5.out (fun g off o hA _ h => by have := FB4.out g off none hA; have := h.1; omega), fun g off x hA => ⟨Nat.lt_of_lt_of_le (H4.out.sep g off x hA).1 E5.out.size, (H4.out.sep g off x hA).2⟩⟩
                  have BE5 := Lib.hid (E5.out.block _ _ BE4.out (BoxM.ne (by decide)))
                  have C5 : Hid (Chg NoM w w5) := ((C.out.trans EY.out).trans E4.out).thenAll E5.out (fun i o h => by rw [h.1]; have := N1.out; have := NW.out; omega)
                  have S4 : Hid (wy.heap.size ≤ w4.heap.size) := E4.out.size
                  have S5 : Hid (w4.heap.size + 1 < w5.heap.size) := lt_of_blk bz5
                  clear hb5 hc5 hs5 bz5
                  have hb : ∀ j, j < 11 → w5.cell? ⟨eb, j, none⟩ = fe.arr[j]? := fun j _ => blk_cell BE5.out j
                  have z_0 := hb 0 (by omega)
                  have z_1 := hb 1 (by omega)
                  have z_2 := hb 2 (by omega)
                  have z_3 := hb 3 (by omega)
                  have z_4 := hb 4 (by omega)
                  have z_5 := hb 5 (by omega)
                  have z_6 := hb 6 (by omega)
                  have z_7 := hb 7 (by omega)
                  have z_8 := hb 8 (by omega)
                  have z_9 := hb 9 (by omega)
                  have z_10 := hb 10 (by omega)
                  simp only [Edu.cells, List.getElem?_cons_zero, List.getElem?_cons_succ, List.getElem?_toArray, Nat.add_zero] at z_0 z_1 z_2 z_3 z_4 z_5 z_6 z_7 z_8 z_9 z_10
                  clear hb
                  go_wp2_with fail
                  refine (PQ.out w5 H5.out.park).mono ?_
                  rintro en w6 ⟨rfl, v2, hp6, ho6, hc6⟩
                  have P6 := Lib.hid (H5.out.pair hp6 ho6 hc6)
                  have BX6 := Lib.hid (hc6.block _ _ BX5.out (ParkX.ne (by decide) (by decide)))
                  have bz6 := hc6.block _ _ BZ5.out (by
                    rintro (⟨_, _, _, h⟩ | h)
                    · injection h with _ h; cases h
                    · have := Row.own_lt PY.out.park.2.2 h.own; have := S4.out; omega)
                  have C6 : Hid (Chg NoM w w6) := C5.out.thenAll hc6 (fun i o h => by have h1 : wo.heap.size ≤ i := ParkX.new H5.out.park i o h; have := NW.out; omega)
                  have hb : ∀ j, j < 11 → w6.cell? ⟨w4.heap.size + 1, j, none⟩ = Z.arr[j]? := fun j _ => blk_cell bz6 j
                  have l6 := lt_of_blk bz6
                  have n6 : w4.heap.size + 1 ≠ w6.heap.size := by omega
                  clear hp6 ho6 hc6 bz6 PQ z_0 z_1 z_2 z_3 z_4 z_5 z_6 z_7 z_8 z_9 z_10
                  have u_0 := hb 0 (by omega)
                  have u_1 := hb 1 (by omega)
                  have u_2 := hb 2 (by omega)
                  have u_3 := hb 3 (by omega)
                  have u_4 := hb 4 (by omega)
                  have u_5 := hb 5 (by omega)
                  have u_6 := hb 6 (by omega)
                  have u_7 := hb 7 (by omega)
                  have u_8 := hb 8 (by omega)
                  have u_9 := hb 9 (by omega)
                  have u_10 := hb 10 (by omega)
                  simp only [Edu.cells, List.getElem?_cons_zero, List.getElem?_cons_succ, List.getElem?_toArray, Nat.add_zero] at u_0 u_1 u_2 u_3 u_4 u_5 u_6 u_7 u_8 u_9 u_10
                  clear hb
                  have hq := neqE Z Z
                  rw [decide_eq_true rfl] at hq
                  simp only [Bool.not_true] at hq
                  unfold Edu.agg at hq
                  cases G
                  all_goals
                    go_wp2_with fail
                    clear u_0 u_1 u_2 u_3 u_4 u_5 u_6 u_7 u_8 u_9 u_10 hq
                    have d0 : Chg NoM w6 (w6.alloc (.cells #[.int .i64 Z.kind, .string Z.room, .string Z.user, .string Z.event, .string Z.thread, .bool Z.priv, .bool Z.isOn, .int .i64 Z.span, .int .i64 Z.state, .int .i64 Z.tick, .int .i64 Z.stamp] 32)) := (Chg.refl w6).alloc _
                    generalize w6.alloc (.cells #[.int .i64 Z.kind, .string Z.room, .string Z.user, .string Z.event, .string Z.thread, .bool Z.priv, .bool Z.isOn, .int .i64 Z.span, .int .i64 Z.state, .int .i64 Z.tick, .int .i64 Z.stamp] 32) = wk at d0 ⊢
                    have PK := Lib.hid (P6.out.chgNo d0)
                    have BXK := Lib.hid (d0.blkNo BX6.out)
                    have CK := Lib.hid (C6.out.trans d0)
                    clear d0
                    refine wp_region_sig 20 (fun w' => Chg NoM wk w') [.L [0, 2, 3], .K 1, .K 4, .L [5, 6, 7, 9, 10, 11], .K 8, .L [12, 13, 14, 15, 17, 18], .K 16, .L [19], .N [20]] rfl (fun _ _ d _ _ h => by cases d <;> exact h) (fun _ h => h) (by kernel_rfl) ((Chg.refl wk).drew) ?_
                    apply sigL (Nat.le_refl _)
                    · intro w' hS
                      have y1 := blk_cell (hS.blkNo BXK.out) 1
                      (simp only [wpPl, pickOps, List.filterMap_cons, List.filterMap_nil, List.getElem?_toArray, List.getElem?_cons_zero, List.getElem?_cons_succ]; iterate 3 (go_wp2; refine ⟨trivial, ?_⟩)); rfl
                    apply sigK
                    simp only [pickOps, List.filterMap_cons, List.filterMap_nil, List.getElem?_toArray, List.getElem?_cons_zero, List.getElem?_cons_succ]
                    go_wp2_with fail
                    refine (all_any wo.heap.size wo.heap.size n lo2 L2 v2 wk.drew (PK.out.park.chgNo ((Chg.refl wk).drew)) (by omega)).mono ?_
                    rintro en w8 ⟨vall, rfl, hr8, hc8⟩
                    obtain ⟨A8, c8, rfl⟩ := hr8.slice
                    have D8 : Hid (Chg NoM wk w8) := Chg.ofDrew hc8
                    have SM := Lib.hid (same_eo A8 B4 c8 cb4 L2 w8 (EO.of hr8) (PK.out.ref.chgNo D8.out) (by omega))
                    clear hr8 hc8
                    go_wp2_with fail
                    refine ⟨D8.out, ?_⟩
                    apply sigK
                    simp only [pickOps, List.filterMap_cons, List.filterMap_nil, List.getElem?_toArray, List.getElem?_cons_zero, List.getElem?_cons_succ]
                    go_wp2_with fail
                    refine SM.out.mono ?_
                    rintro en w9 ⟨rfl, hc9⟩
                    have D9 := Lib.hid (D8.out.trans hc9)
                    clear hc9 SM
                    go_wp2_with fail
                    refine ⟨D9.out, ?_⟩
                    apply sigL (by simp)
                    · intro w' hS
                      have y1 := blk_cell (hS.blkNo BXK.out) 1
                      (simp only [wpPl, pickOps, List.filterMap_cons, List.filterMap_nil, List.getElem?_toArray, List.getElem?_cons_zero, List.getElem?_cons_succ]; iterate 6 (go_wp2; refine ⟨trivial, ?_⟩)); rfl
                    apply sigK
                    simp only [pickOps, List.filterMap_cons, List.filterMap_nil, List.getElem?_toArray, List.getElem?_cons_zero, List.getElem?_cons_succ]
                    go_wp2_with fail
                    refine (len_any wo.heap.size wo.heap.size n lo2 L2 v2 w9 (PK.out.park.chgNo D9.out)).mono ?_
                    rintro en w10 ⟨rfl, rfl⟩
                    go_wp2_with fail
                    refine ⟨D9.out, ?_⟩
                    apply sigL (by simp)
                    · intro w' hS
                      have y2 := blk_cell (hS.blkNo BXK.out) 2
                      (simp only [wpPl, pickOps, List.filterMap_cons, List.filterMap_nil, List.getElem?_toArray, List.getElem?_cons_zero, List.getElem?_cons_succ]; iterate 6 (go_wp2; refine ⟨trivial, ?_⟩)); rfl
                    apply sigK
                    simp only [pickOps, List.filterMap_cons, List.filterMap_nil, List.getElem?_toArray, List.getElem?_cons_zero, List.getElem?_cons_succ]
                    go_wp2_with fail
                    refine (lost_any wo.heap.size wo.heap.size n lo2 L2 v2 w9 (PK.out.park.chgNo D9.out)).mono ?_
                    rintro en w10 ⟨rfl, rfl⟩
                    go_wp2_with fail
                    refine ⟨D9.out, ?_⟩
                    apply sigL (by simp)
                    · intro w' hS
                      (simp only [wpPl, pickOps, List.filterMap_cons, List.filterMap_nil, List.getElem?_toArray, List.getElem?_cons_zero, List.getElem?_cons_succ]; iterate 1 (go_wp2; refine ⟨trivial, ?_⟩)); rfl
                    apply sigN
                    simp only [pickOps, List.filterMap_cons, List.filterMap_nil, List.getElem?_toArray, List.getElem?_cons_zero, List.getElem?_cons_succ]
                    go_wp2_with fail
                    apply sigEnd
                    go_wp2_with fail
                    exact ⟨⟨k + 1, L2, lo2, v2, B4, cb4, by omega, by omega, by go_num, PK.out.chgNo D9.out, D9.out.blkNo BXK.out, FB4, by omega, by omega, by omega, CK.out.trans D9.out⟩, by simp [intOf]; omega⟩
                · skip
                  have hb : ∀ j, j < 11 → wy.cell? ⟨eb, j, none⟩ = fe.arr[j]? := fun j _ => blk_cell BE.out j
                  have z_0 := hb 0 (by omega)
                  have z_1 := hb 1 (by omega)
                  have z_2 := hb 2 (by omega)
                  have z_3 := hb 3 (by omega)
                  have z_4 := hb 4 (by omega)
                  have z_5 := hb 5 (by omega)
                  have z_6 := hb 6 (by omega)
                  have z_7 := hb 7 (by omega)
                  have z_8 := hb 8 (by omega)
                  have z_9 := hb 9 (by omega)
                  have z_10 := hb 10 (by omega)
                  simp only [Edu.cells, List.getElem?_cons_zero, List.getElem?_cons_succ, List.getElem?_toArray, Nat.add_zero] at z_0 z_1 z_2 z_3 z_4 z_5 z_6 z_7 z_8 z_9 z_10
                  clear hb
                  have TQ := Lib.hid (fun V hV => take_any wo.heap.size wo.heap.size n lost l v fe.room fe.event V hV (by omega))
                  have RQ := Lib.hid (rtake_any B cb n lost l fe.room fe.event wy PY.out.ref (by omega))
                  have lfl := List.length_filter_le (fun e => !isE fe.room fe.event e) l
                  have tal := List.length_filter_le (isE fe.room fe.event) l
                  generalize l.filter (fun e => !isE fe.room fe.event e) = lf at TQ RQ lfl
                  generalize l.filter (isE fe.room fe.event) = ta at TQ RQ tal
                  go_wp2_with (refine wpList_load_row rfl 41 (.tmp 11) rfl w1.heap.size rfl 41 #[.int .i64 n, .slice B l.length cb, .int .i64 lost] (0, 0) _ BXY.out Try.underlying41 rfl (by kernel_rfl) ?_)
                  refine RQ.out.mono ?_
                  rintro en w4 ⟨B4, cb4, vw, rfl, hr4, hf4, hw4, hc4⟩
                  obtain ⟨Aw, cw, rfl⟩ := hw4.slice
                  have E4 := Lib.hid hc4
                  have H4 := Lib.hid (PY.out.half hr4 hf4 hc4)
                  have BX4 := Lib.hid (hc4.blkNo BXY.out)
                  have BE4 := Lib.hid (hc4.blkNo BE.out)
                  have W4 := Lib.hid hw4
                  have FB4 : Hid (∀ g off x, B4 = some ⟨g, off, x⟩ → w1.heap.size < g) := by
                    intro g off x h
                    rcases hf4 g off x h with h' | h'
                    · exact FB.out g off x (h' ▸ h)
                    · have := LB1.out; have := EY.out.size; have := h'.1; omega
                  clear hr4 hf4 hc4 hw4 RQ z_0 z_1 z_2 z_3 z_4 z_5 z_6 z_7 z_8 z_9 z_10
                  go_wp2_with (refine wpList_store_row rfl 41 (.tmp 11) (.tmp 86) rfl w1.heap.size rfl #[.int .i64 n, .slice B4 lf.length cb4, .int .i64 lost] rfl 41 #[.int .i64 n, .slice B l.length cb, .int .i64 lost] (blk_alloc BX4.out _) (by kernel_rfl) rfl (by simp [Value.oneCell']) ?_)
                  intro w5 hb5 hc5 hs5
                  have E5 : Hid (Chg (BoxM w1.heap.size 41) w4 w5) := ((Chg.refl w4).alloc _).trans hc5
                  have BX5 := Lib.hid hb5
                  have H5 : Hid (Half w5 wo.heap.size wo.heap.size n l lost v B4 lf) :=
                    ⟨H4.out.park.chg E5.out (fun _ _ => BoxM.ne (by decide)) (fun _ _ _ _ => BoxM.ne (by decide)), H4.out.ref.chg E5.out (fun g off o hA _ h => by have := FB4.out g off none hA; have := h.1; omega), fun g off x hA => ⟨Nat.lt_of_lt_of_le (H4.out.sep g off x hA).1 E5.out.size, (H4.out.sep g off x hA).2⟩⟩
                  have BE5 := Lib.hid (E5.out.block _ _ BE4.out (BoxM.ne (by decide)))
                  have W5 := Lib.hid (Row.chg W4.out E5.out (fun _ _ _ _ _ => BoxM.ne (by decide)))
                  have C5 : Hid (Chg NoM w w5) := ((C.out.trans EY.out).trans E4.out).thenAll E5.out (fun i o h => by rw [h.1]; have := N1.out; have := NW.out; omega)
                  clear hb5 hc5 hs5
                  have hb : ∀ j, j < 11 → w5.cell? ⟨eb, j, none⟩ = fe.arr[j]? := fun j _ => blk_cell BE5.out j
                  have z_0 := hb 0 (by omega)
                  have z_1 := hb 1 (by omega)
                  have z_2 := hb 2 (by omega)
                  have z_3 := hb 3 (by omega)
                  have z_4 := hb 4 (by omega)
                  have z_5 := hb 5 (by omega)
                  have z_6 := hb 6 (by omega)
                  have z_7 := hb 7 (by omega)
                  have z_8 := hb 8 (by omega)
                  have z_9 := hb 9 (by omega)
                  have z_10 := hb 10 (by omega)
                  simp only [Edu.cells, List.getElem?_cons_zero, List.getElem?_cons_succ, List.getElem?_toArray, Nat.add_zero] at z_0 z_1 z_2 z_3 z_4 z_5 z_6 z_7 z_8 z_9 z_10
                  clear hb
                  go_wp2_with fail
                  refine (TQ.out w5 H5.out.park).mono ?_
                  rintro en w6 ⟨vt, v2, rfl, ht6, hp6, ho6, hc6⟩
                  obtain ⟨At, ct2, rfl⟩ := ht6.slice
                  have P6 := Lib.hid (H5.out.pair hp6 ho6 hc6)
                  have BX6 := Lib.hid (hc6.block _ _ BX5.out (ParkX.ne (by decide) (by decide)))
                  have W6 : Hid (ERow w6 wy.heap.size (.slice Aw ta.length cw) ta) := Row.chg W5.out hc6 (fun g c f hg hbg => by
                    rintro (⟨_, _, _, h⟩ | h)
                    · injection h with _ h; cases h
                    · have := Row.own_lt PY.out.park.2.2 h.own; omega)
                  have C6 : Hid (Chg NoM w w6) := C5.out.thenAll hc6 (fun i o h => by have h1 : wo.heap.size ≤ i := ParkX.new H5.out.park i o h; have := NW.out; omega)
                  have SMT := Lib.hid (same_eo At Aw ct2 cw ta w6 (EO.of ht6) (EO.of W6.out) (by omega))
                  clear ht6 hp6 ho6 hc6 TQ z_0 z_1 z_2 z_3 z_4 z_5 z_6 z_7 z_8 z_9 z_10
                  go_wp2_with fail
                  refine SMT.out.mono ?_
                  rintro en wk ⟨rfl, hck⟩
                  have PK := Lib.hid (P6.out.chgNo hck)
                  have BXK := Lib.hid (hck.blkNo BX6.out)
                  have CK := Lib.hid (C6.out.trans hck)
                  clear hck SMT
                  go_wp2_with fail
                  refine wp_region_sig 20 (fun w' => Chg NoM wk w') [.L [0, 2, 3], .K 1, .K 4, .L [5, 6, 7, 9, 10, 11], .K 8, .L [12, 13, 14, 15, 17, 18], .K 16, .L [19], .N [20]] rfl (fun _ _ d _ _ h => by cases d <;> exact h) (fun _ h => h) (by kernel_rfl) ((Chg.refl wk).drew) ?_
                  apply sigL (Nat.le_refl _)
                  · intro w' hS
                    have y1 := blk_cell (hS.blkNo BXK.out) 1
                    (simp only [wpPl, pickOps, List.filterMap_cons, List.filterMap_nil, List.getElem?_toArray, List.getElem?_cons_zero, List.getElem?_cons_succ]; iterate 3 (go_wp2; refine ⟨trivial, ?_⟩)); rfl
                  apply sigK
                  simp only [pickOps, List.filterMap_cons, List.filterMap_nil, List.getElem?_toArray, List.getElem?_cons_zero, List.getElem?_cons_succ]
                  go_wp2_with fail
                  refine (all_any wo.heap.size wo.heap.size n lost lf v2 wk.drew (PK.out.park.chgNo ((Chg.refl wk).drew)) (by omega)).mono ?_
                  rintro en w8 ⟨vall, rfl, hr8, hc8⟩
                  obtain ⟨A8, c8, rfl⟩ := hr8.slice
                  have D8 : Hid (Chg NoM wk w8) := Chg.ofDrew hc8
                  have SM := Lib.hid (same_eo A8 B4 c8 cb4 lf w8 (EO.of hr8) (PK.out.ref.chgNo D8.out) (by omega))
                  clear hr8 hc8
                  go_wp2_with fail
                  refine ⟨D8.out, ?_⟩
                  apply sigK
                  simp only [pickOps, List.filterMap_cons, List.filterMap_nil, List.getElem?_toArray, List.getElem?_cons_zero, List.getElem?_cons_succ]
                  go_wp2_with fail
                  refine SM.out.mono ?_
                  rintro en w9 ⟨rfl, hc9⟩
                  have D9 := Lib.hid (D8.out.trans hc9)
                  clear hc9 SM
                  go_wp2_with fail
                  refine ⟨D9.out, ?_⟩
                  apply sigL (by simp)
                  · intro w' hS
                    have y1 := blk_cell (hS.blkNo BXK.out) 1
                    (simp only [wpPl, pickOps, List.filterMap_cons, List.filterMap_nil, List.getElem?_toArray, List.getElem?_cons_zero, List.getElem?_cons_succ]; iterate 6 (go_wp2; refine ⟨trivial, ?_⟩)); rfl
                  apply sigK
                  simp only [pickOps, List.filterMap_cons, List.filterMap_nil, List.getElem?_toArray, List.getElem?_cons_zero, List.getElem?_cons_succ]
                  go_wp2_with fail
                  refine (len_any wo.heap.size wo.heap.size n lost lf v2 w9 (PK.out.park.chgNo D9.out)).mono ?_
                  rintro en w10 ⟨rfl, rfl⟩
                  go_wp2_with fail
                  refine ⟨D9.out, ?_⟩
                  apply sigL (by simp)
                  · intro w' hS
                    have y2 := blk_cell (hS.blkNo BXK.out) 2
                    (simp only [wpPl, pickOps, List.filterMap_cons, List.filterMap_nil, List.getElem?_toArray, List.getElem?_cons_zero, List.getElem?_cons_succ]; iterate 6 (go_wp2; refine ⟨trivial, ?_⟩)); rfl
                  apply sigK
                  simp only [pickOps, List.filterMap_cons, List.filterMap_nil, List.getElem?_toArray, List.getElem?_cons_zero, List.getElem?_cons_succ]
                  go_wp2_with fail
                  refine (lost_any wo.heap.size wo.heap.size n lost lf v2 w9 (PK.out.park.chgNo D9.out)).mono ?_
                  rintro en w10 ⟨rfl, rfl⟩
                  go_wp2_with fail
                  refine ⟨D9.out, ?_⟩
                  apply sigL (by simp)
                  · intro w' hS
                    (simp only [wpPl, pickOps, List.filterMap_cons, List.filterMap_nil, List.getElem?_toArray, List.getElem?_cons_zero, List.getElem?_cons_succ]; iterate 1 (go_wp2; refine ⟨trivial, ?_⟩)); rfl
                  apply sigN
                  simp only [pickOps, List.filterMap_cons, List.filterMap_nil, List.getElem?_toArray, List.getElem?_cons_zero, List.getElem?_cons_succ]
                  go_wp2_with fail
                  apply sigEnd
                  go_wp2_with fail
                  exact ⟨⟨k + 1, lf, lost, v2, B4, cb4, by omega, by omega, by go_num, PK.out.chgNo D9.out, D9.out.blkNo BXK.out, FB4, by omega, by omega, by omega, CK.out.trans D9.out⟩, by simp [intOf]; omega⟩
              · skip
                have hb : ∀ j, j < 11 → wy.cell? ⟨eb, j, none⟩ = fe.arr[j]? := fun j _ => blk_cell BE.out j
                have z_0 := hb 0 (by omega)
                have z_1 := hb 1 (by omega)
                have z_2 := hb 2 (by omega)
                have z_3 := hb 3 (by omega)
                have z_4 := hb 4 (by omega)
                have z_5 := hb 5 (by omega)
                have z_6 := hb 6 (by omega)
                have z_7 := hb 7 (by omega)
                have z_8 := hb 8 (by omega)
                have z_9 := hb 9 (by omega)
                have z_10 := hb 10 (by omega)
                simp only [Edu.cells, List.getElem?_cons_zero, List.getElem?_cons_succ, List.getElem?_toArray, Nat.add_zero] at z_0 z_1 z_2 z_3 z_4 z_5 z_6 z_7 z_8 z_9 z_10
                clear hb
                have PQ := Lib.hid (fun V hV => put_eq wo.heap.size wo.heap.size n lost l v fe V hV hln (by omega) hl0 (by omega))
                have RQ := Lib.hid (rput_eq B cb n lost l fe wy PY.out.ref hln (by omega) (by omega) hl0 (by omega))
                have hpl := putL_len (e := fe) hln
                have hcb := putC_bd n lost l fe
                generalize putL n l fe = L2 at PQ RQ hpl
                generalize putC n lost l fe = lo2 at PQ RQ hcb
                generalize putZ n l fe = Z at PQ RQ
                generalize putG n l fe = G at PQ RQ
                unfold Edu.agg at PQ RQ
                obtain ⟨hcb1, hcb2⟩ := hcb
                have lo0 : 0 ≤ lo2 := by omega
                have lo1 : lo2 ≤ (k : Int) + 1 := by omega
                clear hcb1 hcb2 hlk
                go_wp2_with (refine wpList_load_row rfl 41 (.tmp 11) rfl w1.heap.size rfl 41 #[.int .i64 n, .slice B l.length cb, .int .i64 lost] (0, 0) _ BXY.out Try.underlying41 rfl (by kernel_rfl) ?_)
                refine RQ.out.mono ?_
                rintro en w4 ⟨B4, cb4, rfl, hr4, hf4, hc4⟩
                have E4 := Lib.hid hc4
                have H4 := Lib.hid (PY.out.half hr4 hf4 hc4)
                have BX4 := Lib.hid (hc4.blkNo BXY.out)
                have BE4 := Lib.hid (hc4.blkNo BE.out)
                have FB4 : Hid (∀ g off x, B4 = some ⟨g, off, x⟩ → w1.heap.size < g) := by
                  intro g off x h
                  rcases hf4 g off x h with h' | h'
                  · exact FB.out g off x (h' ▸ h)
                  · have := LB1.out; have := EY.out.size; have := h'.1; omega
                clear hr4 hf4 hc4 RQ z_0 z_1 z_2 z_3 z_4 z_5 z_6 z_7 z_8 z_9 z_10
                go_wp2_with (refine wpList_store_row rfl 41 (.tmp 11) (.tmp 103) rfl w1.heap.size rfl #[.int .i64 n, .slice B4 L2.length cb4, .int .i64 lo2] rfl 41 #[.int .i64 n, .slice B l.length cb, .int .i64 lost] (blk_alloc (blk_alloc BX4.out _) _) (by kernel_rfl) rfl (by simp [Value.oneCell']) ?_)
                intro w5 hb5 hc5 hs5
                have E5 : Hid (Chg (BoxM w1.heap.size 41) w4 w5) := (((Chg.refl w4).alloc _).alloc _).trans hc5
                have BX5 := Lib.hid hb5
                have bz5 : w5.heap[w4.heap.size + 1]? = some (.cells Z.arr 32 (0, 0)) := by
                  have h := hc5.block _ _ (blk_new (w4.alloc _) _) (BoxM.ne (by decide))
                  simp only [heap_size_alloc'] at h
                  exact h
                have BZ5 := Lib.hid bz5
                have H5 : Hid (Half w5 wo.heap.size wo.heap.size n l lost v B4 L2) :=
                  ⟨H4.out.park.chg E5.out (fun _ _ => BoxM.ne (by decide)) (fun _ _ _ _ => BoxM.ne (by decide)), H4.out.ref.chg E5.out (fun g off o hA _ h => by have := FB4.out g off none hA; have := h.1; omega), fun g off x hA => ⟨Nat.lt_of_lt_of_le (H4.out.sep g off x hA).1 E5.out.size, (H4.out.sep g off x hA).2⟩⟩
                have BE5 := Lib.hid (E5.out.block _ _ BE4.out (BoxM.ne (by decide)))
                have C5 : Hid (Chg NoM w w5) := ((C.out.trans EY.out).trans E4.out).thenAll E5.out (fun i o h => by rw [h.1]; have := N1.out; have := NW.out; omega)
                have S4 : Hid (wy.heap.size ≤ w4.heap.size) := E4.out.size
                have S5 : Hid (w4.heap.size + 1 < w5.heap.size) := lt_of_blk bz5
                clear hb5 hc5 hs5 bz5
                have hb : ∀ j, j < 11 → w5.cell? ⟨eb, j, none⟩ = fe.arr[j]? := fun j _ => blk_cell BE5.out j
                have z_0 := hb 0 (by omega)
                have z_1 := hb 1 (by omega)
                have z_2 := hb 2 (by omega)
                have z_3 := hb 3 (by omega)
                have z_4 := hb 4 (by omega)
                have z_5 := hb 5 (by omega)
                have z_6 := hb 6 (by omega)
                have z_7 := hb 7 (by omega)
                have z_8 := hb 8 (by omega)
                have z_9 := hb 9 (by omega)
                have z_10 := hb 10 (by omega)
                simp only [Edu.cells, List.getElem?_cons_zero, List.getElem?_cons_succ, List.getElem?_toArray, Nat.add_zero] at z_0 z_1 z_2 z_3 z_4 z_5 z_6 z_7 z_8 z_9 z_10
                clear hb
                go_wp2_with fail
                refine (PQ.out w5 H5.out.park).mono ?_
                rintro en w6 ⟨rfl, v2, hp6, ho6, hc6⟩
                have P6 := Lib.hid (H5.out.pair hp6 ho6 hc6)
                have BX6 := Lib.hid (hc6.block _ _ BX5.out (ParkX.ne (by decide) (by decide)))
                have bz6 := hc6.block _ _ BZ5.out (by
                  rintro (⟨_, _, _, h⟩ | h)
                  · injection h with _ h; cases h
                  · have := Row.own_lt PY.out.park.2.2 h.own; have := S4.out; omega)
                have C6 : Hid (Chg NoM w w6) := C5.out.thenAll hc6 (fun i o h => by have h1 : wo.heap.size ≤ i := ParkX.new H5.out.park i o h; have := NW.out; omega)
                have hb : ∀ j, j < 11 → w6.cell? ⟨w4.heap.size + 1, j, none⟩ = Z.arr[j]? := fun j _ => blk_cell bz6 j
                have l6 := lt_of_blk bz6
                have n6 : w4.heap.size + 1 ≠ w6.heap.size := by omega
                clear hp6 ho6 hc6 bz6 PQ z_0 z_1 z_2 z_3 z_4 z_5 z_6 z_7 z_8 z_9 z_10
                have u_0 := hb 0 (by omega)
                have u_1 := hb 1 (by omega)
                have u_2 := hb 2 (by omega)
                have u_3 := hb 3 (by omega)
                have u_4 := hb 4 (by omega)
                have u_5 := hb 5 (by omega)
                have u_6 := hb 6 (by omega)
                have u_7 := hb 7 (by omega)
                have u_8 := hb 8 (by omega)
                have u_9 := hb 9 (by omega)
                have u_10 := hb 10 (by omega)
                simp only [Edu.cells, List.getElem?_cons_zero, List.getElem?_cons_succ, List.getElem?_toArray, Nat.add_zero] at u_0 u_1 u_2 u_3 u_4 u_5 u_6 u_7 u_8 u_9 u_10
                clear hb
                have hq := neqE Z Z
                rw [decide_eq_true rfl] at hq
                simp only [Bool.not_true] at hq
                unfold Edu.agg at hq
                cases G
                all_goals
                  go_wp2_with fail
                  clear u_0 u_1 u_2 u_3 u_4 u_5 u_6 u_7 u_8 u_9 u_10 hq
                  have d0 : Chg NoM w6 (w6.alloc (.cells #[.int .i64 Z.kind, .string Z.room, .string Z.user, .string Z.event, .string Z.thread, .bool Z.priv, .bool Z.isOn, .int .i64 Z.span, .int .i64 Z.state, .int .i64 Z.tick, .int .i64 Z.stamp] 32)) := (Chg.refl w6).alloc _
                  generalize w6.alloc (.cells #[.int .i64 Z.kind, .string Z.room, .string Z.user, .string Z.event, .string Z.thread, .bool Z.priv, .bool Z.isOn, .int .i64 Z.span, .int .i64 Z.state, .int .i64 Z.tick, .int .i64 Z.stamp] 32) = wk at d0 ⊢
                  have PK := Lib.hid (P6.out.chgNo d0)
                  have BXK := Lib.hid (d0.blkNo BX6.out)
                  have CK := Lib.hid (C6.out.trans d0)
                  clear d0
                  refine wp_region_sig 20 (fun w' => Chg NoM wk w') [.L [0, 2, 3], .K 1, .K 4, .L [5, 6, 7, 9, 10, 11], .K 8, .L [12, 13, 14, 15, 17, 18], .K 16, .L [19], .N [20]] rfl (fun _ _ d _ _ h => by cases d <;> exact h) (fun _ h => h) (by kernel_rfl) ((Chg.refl wk).drew) ?_
                  apply sigL (Nat.le_refl _)
                  · intro w' hS
                    have y1 := blk_cell (hS.blkNo BXK.out) 1
                    (simp only [wpPl, pickOps, List.filterMap_cons, List.filterMap_nil, List.getElem?_toArray, List.getElem?_cons_zero, List.getElem?_cons_succ]; iterate 3 (go_wp2; refine ⟨trivial, ?_⟩)); rfl
                  apply sigK
                  simp only [pickOps, List.filterMap_cons, List.filterMap_nil, List.getElem?_toArray, List.getElem?_cons_zero, List.getElem?_cons_succ]
                  go_wp2_with fail
                  refine (all_any wo.heap.size wo.heap.size n lo2 L2 v2 wk.drew (PK.out.park.chgNo ((Chg.refl wk).drew)) (by omega)).mono ?_
                  rintro en w8 ⟨vall, rfl, hr8, hc8⟩
                  obtain ⟨A8, c8, rfl⟩ := hr8.slice
                  have D8 : Hid (Chg NoM wk w8) := Chg.ofDrew hc8
                  have SM := Lib.hid (same_eo A8 B4 c8 cb4 L2 w8 (EO.of hr8) (PK.out.ref.chgNo D8.out) (by omega))
                  clear hr8 hc8
                  go_wp2_with fail
                  refine ⟨D8.out, ?_⟩
                  apply sigK
                  simp only [pickOps, List.filterMap_cons, List.filterMap_nil, List.getElem?_toArray, List.getElem?_cons_zero, List.getElem?_cons_succ]
                  go_wp2_with fail
                  refine SM.out.mono ?_
                  rintro en w9 ⟨rfl, hc9⟩
                  have D9 := Lib.hid (D8.out.trans hc9)
                  clear hc9 SM
                  go_wp2_with fail
                  refine ⟨D9.out, ?_⟩
                  apply sigL (by simp)
                  · intro w' hS
                    have y1 := blk_cell (hS.blkNo BXK.out) 1
                    (simp only [wpPl, pickOps, List.filterMap_cons, List.filterMap_nil, List.getElem?_toArray, List.getElem?_cons_zero, List.getElem?_cons_succ]; iterate 6 (go_wp2; refine ⟨trivial, ?_⟩)); rfl
                  apply sigK
                  simp only [pickOps, List.filterMap_cons, List.filterMap_nil, List.getElem?_toArray, List.getElem?_cons_zero, List.getElem?_cons_succ]
                  go_wp2_with fail
                  refine (len_any wo.heap.size wo.heap.size n lo2 L2 v2 w9 (PK.out.park.chgNo D9.out)).mono ?_
                  rintro en w10 ⟨rfl, rfl⟩
                  go_wp2_with fail
                  refine ⟨D9.out, ?_⟩
                  apply sigL (by simp)
                  · intro w' hS
                    have y2 := blk_cell (hS.blkNo BXK.out) 2
                    (simp only [wpPl, pickOps, List.filterMap_cons, List.filterMap_nil, List.getElem?_toArray, List.getElem?_cons_zero, List.getElem?_cons_succ]; iterate 6 (go_wp2; refine ⟨trivial, ?_⟩)); rfl
                  apply sigK
                  simp only [pickOps, List.filterMap_cons, List.filterMap_nil, List.getElem?_toArray, List.getElem?_cons_zero, List.getElem?_cons_succ]
                  go_wp2_with fail
                  refine (lost_any wo.heap.size wo.heap.size n lo2 L2 v2 w9 (PK.out.park.chgNo D9.out)).mono ?_
                  rintro en w10 ⟨rfl, rfl⟩
                  go_wp2_with fail
                  refine ⟨D9.out, ?_⟩
                  apply sigL (by simp)
                  · intro w' hS
                    (simp only [wpPl, pickOps, List.filterMap_cons, List.filterMap_nil, List.getElem?_toArray, List.getElem?_cons_zero, List.getElem?_cons_succ]; iterate 1 (go_wp2; refine ⟨trivial, ?_⟩)); rfl
                  apply sigN
                  simp only [pickOps, List.filterMap_cons, List.filterMap_nil, List.getElem?_toArray, List.getElem?_cons_zero, List.getElem?_cons_succ]
                  go_wp2_with fail
                  apply sigEnd
                  go_wp2_with fail
                  exact ⟨⟨k + 1, L2, lo2, v2, B4, cb4, by omega, by omega, by go_num, PK.out.chgNo D9.out, D9.out.blkNo BXK.out, FB4, by omega, by omega, by omega, CK.out.trans D9.out⟩, by simp [intOf]; omega⟩
            · have hzt : (hz == 1) = true := by have := HHZ.out; simp; omega
              go_wp2_with (refine wpList_store_row rfl 32 (.tmp 13) (.tmp 55) rfl w3.heap.size rfl fe.arr rfl 32 zarr (blk_new w3 _) (by kernel_rfl) rfl (arr_one fe) ?_)
              intro wu hbe hcy hsy
              have BU := Lib.hid hbe
              have EU : Hid (Chg NoM wr wu) := (E3.out.alloc _).thenAll hcy (fun i o h => by rw [h.1]; exact E3.out.size)
              obtain ⟨eb, heb⟩ : ∃ eb, eb = w3.heap.size := ⟨_, rfl⟩
              have EB : Hid (wr.heap.size ≤ eb) := by rw [heb]; exact E3.out.size
              rw [← heb] at BU ⊢
              clear hbe hcy hsy heb
              have hc : ∀ j, j < 11 → wu.cell? ⟨b, off + k * 11 + j, none⟩ = d.cells[j]? := fun j hj => by
                have h := HC0.out j hj
                have hj' : j < d.cells.length := by simp [Edu.cells]; omega
                rw [List.getElem?_eq_getElem hj'] at h ⊢
                exact EU.out.cellNo h
              have x_0 := hc 0 (by omega)
              have x_1 := hc 1 (by omega)
              have x_2 := hc 2 (by omega)
              have x_3 := hc 3 (by omega)
              have x_4 := hc 4 (by omega)
              have x_5 := hc 5 (by omega)
              have x_6 := hc 6 (by omega)
              have x_7 := hc 7 (by omega)
              have x_8 := hc 8 (by omega)
              have x_9 := hc 9 (by omega)
              have x_10 := hc 10 (by omega)
              simp only [Edu.cells, List.getElem?_cons_zero, List.getElem?_cons_succ, List.getElem?_toArray, Nat.add_zero] at x_0 x_1 x_2 x_3 x_4 x_5 x_6 x_7 x_8 x_9 x_10
              clear hc
              go_wp2_with fail
              refine (FW.out _).mono ?_
              rintro en w4 ⟨fe2, rfl, hc4⟩
              have E4 := Lib.hid (EU.out.trans hc4)
              have BU4 := Lib.hid (hc4.blkNo BU.out)
              clear hc4 x_0 x_1 x_2 x_3 x_4 x_5 x_6 x_7 x_8 x_9 x_10
              go_wp2_with (refine wpList_store_row rfl 32 (.tmp 13) (.tmp 62) rfl eb rfl fe2.arr rfl 32 fe.arr BU4.out (by kernel_rfl) rfl (arr_one fe2) ?_)
              intro wy hbe hcy hsy
              have BE := Lib.hid hbe
              have EY : Hid (Chg NoM wr wy) := E4.out.thenAll hcy (fun i o h => by rw [h.1]; exact EB.out)
              clear hbe hcy hsy BU BU4
              have PY := Lib.hid (P.out.chgNo EY.out)
              have BXY := Lib.hid (EY.out.blkNo BX.out)
              have LB1 : Hid (w1.heap.size < wr.heap.size) := lt_of_blk BX.out
              have hyt := EY.out
              by_cases hka : k < tl.length
              · obtain ⟨b2, off2, a, rfl, e1, -⟩ := bool_at HT.out (C.out.trans hyt) k hka
                have j1 : (k : Int) < (tl.length : Int) := by omega
                have hmin : min (k : Int) ((tl.length : Int) - 1) = (k : Int) := by omega
                cases a
                · skip
                  have hb : ∀ j, j < 11 → wy.cell? ⟨eb, j, none⟩ = fe2.arr[j]? := fun j _ => blk_cell BE.out j
                  have z_0 := hb 0 (by omega)
                  have z_1 := hb 1 (by omega)
                  have z_2 := hb 2 (by omega)
                  have z_3 := hb 3 (by omega)
                  have z_4 := hb 4 (by omega)
                  have z_5 := hb 5 (by omega)
                  have z_6 := hb 6 (by omega)
                  have z_7 := hb 7 (by omega)
                  have z_8 := hb 8 (by omega)
                  have z_9 := hb 9 (by omega)
                  have z_10 := hb 10 (by omega)
                  simp only [Edu.cells, List.getElem?_cons_zero, List.getElem?_cons_succ, List.getElem?_toArray, Nat.add_zero] at z_0 z_1 z_2 z_3 z_4 z_5 z_6 z_7 z_8 z_9 z_10
                  clear hb
                  have PQ := Lib.hid (fun V hV => put_eq wo.heap.size wo.heap.size n lost l v fe2 V hV hln (by omega) hl0 (by omega))
                  have RQ := Lib.hid (rput_eq B cb n lost l fe2 wy PY.out.ref hln (by omega) (by omega) hl0 (by omega))
                  have hpl := putL_len (e := fe2) hln
                  have hcb := putC_bd n lost l fe2
                  generalize putL n l fe2 = L2 at PQ RQ hpl
                  generalize putC n lost l fe2 = lo2 at PQ RQ hcb
                  generalize putZ n l fe2 = Z at PQ RQ
                  generalize putG n l fe2 = G at PQ RQ
                  unfold Edu.agg at PQ RQ
                  obtain ⟨hcb1, hcb2⟩ := hcb
                  have lo0 : 0 ≤ lo2 := by omega
                  have lo1 : lo2 ≤ (k : Int) + 1 := by omega
                  clear hcb1 hcb2 hlk
                  go_wp2_with (refine wpList_load_row rfl 41 (.tmp 11) rfl w1.heap.size rfl 41 #[.int .i64 n, .slice B l.length cb, .int .i64 lost] (0, 0) _ BXY.out Try.underlying41 rfl (by kernel_rfl) ?_)
                  refine RQ.out.mono ?_
                  rintro en w4 ⟨B4, cb4, rfl, hr4, hf4, hc4⟩
                  have E4 := Lib.hid hc4
                  have H4 := Lib.hid (PY.out.half hr4 hf4 hc4)
                  have BX4 := Lib.hid (hc4.blkNo BXY.out)
                  have BE4 := Lib.hid (hc4.blkNo BE.out)
                  have FB4 : Hid (∀ g off x, B4 = some ⟨g, off, x⟩ → w1.heap.size < g) := by
                    intro g off x h
                    rcases hf4 g off x h with h' | h'
                    · exact FB.out g off x (h' ▸ h)
                    · have := LB1.out; have := EY.out.size; have := h'.1; omega
                  clear hr4 hf4 hc4 RQ z_0 z_1 z_2 z_3 z_4 z_5 z_6 z_7 z_8 z_9 z_10
                  go_wp2_with (refine wpList_store_row rfl 41 (.tmp 11) (.tmp 103) rfl w1.heap.size rfl #[.int .i64 n, .slice B4 L2.length cb4, .int .i64 lo2] rfl 41 #[.int .i64 n, .slice B l.length cb, .int .i64 lost] (blk_alloc (blk_alloc BX4.out _) _) (by kernel_rfl) rfl (by simp [Value.oneCell']) ?_)
                  intro w5 hb5 hc5 hs5
                  have E5 : Hid (Chg (BoxM w1.heap.size 41) w4 w5) := (((Chg.refl w4).alloc _).alloc _).trans hc5
                  have BX5 := Lib.hid hb5
                  have bz5 : w5.heap[w4.heap.size + 1]? = some (.cells Z.arr 32 (0, 0)) := by
                    have h := hc5.block _ _ (blk_new (w4.alloc _) _) (BoxM.ne (by decide))
                    simp only [heap_size_alloc'] at h
                    exact h
                  have BZ5 := Lib.hid bz5
                  have H5 : Hid (Half w5 wo.heap.size wo.heap.size n l lost v B4 L2) :=
                    ⟨H4.out.park.chg E5.out (fun _ _ => BoxM.ne (by decide)) (fun _ _ _ _ => BoxM.ne (by decide)), H4.out.ref.chg E5.out (fun g off o hA _ h => by have := FB4.out g off none hA; have := h.1; omega), fun g off x hA => ⟨Nat.lt_of_lt_of_le (H4.out.sep g off x hA).1 E5.out.size, (H4.out.sep g off x hA).2⟩⟩
                  have BE5 := Lib.hid (E5.out.block _ _ BE4.out (BoxM.ne (by decide)))
                  have C5 : Hid (Chg NoM w w5) := ((C.out.trans EY.out).trans E4.out).thenAll E5.out (fun i o h => by rw [h.1]; have := N1.out; have := NW.out; omega)
                  have S4 : Hid (wy.heap.size ≤ w4.heap.size) := E4.out.size
                  have S5 : Hid (w4.heap.size + 1 < w5.heap.size) := lt_of_blk bz5
                  clear hb5 hc5 hs5 bz5
                  have hb : ∀ j, j < 11 → w5.cell? ⟨eb, j, none⟩ = fe2.arr[j]? := fun j _ => blk_cell BE5.out j
                  have z_0 := hb 0 (by omega)
                  have z_1 := hb 1 (by omega)
                  have z_2 := hb 2 (by omega)
                  have z_3 := hb 3 (by omega)
                  have z_4 := hb 4 (by omega)
                  have z_5 := hb 5 (by omega)
                  have z_6 := hb 6 (by omega)
                  have z_7 := hb 7 (by omega)
                  have z_8 := hb 8 (by omega)
                  have z_9 := hb 9 (by omega)
                  have z_10 := hb 10 (by omega)
                  simp only [Edu.cells, List.getElem?_cons_zero, List.getElem?_cons_succ, List.getElem?_toArray, Nat.add_zero] at z_0 z_1 z_2 z_3 z_4 z_5 z_6 z_7 z_8 z_9 z_10
                  clear hb
                  go_wp2_with fail
                  refine (PQ.out w5 H5.out.park).mono ?_
                  rintro en w6 ⟨rfl, v2, hp6, ho6, hc6⟩
                  have P6 := Lib.hid (H5.out.pair hp6 ho6 hc6)
                  have BX6 := Lib.hid (hc6.block _ _ BX5.out (ParkX.ne (by decide) (by decide)))
                  have bz6 := hc6.block _ _ BZ5.out (by
                    rintro (⟨_, _, _, h⟩ | h)
                    · injection h with _ h; cases h
                    · have := Row.own_lt PY.out.park.2.2 h.own; have := S4.out; omega)
                  have C6 : Hid (Chg NoM w w6) := C5.out.thenAll hc6 (fun i o h => by have h1 : wo.heap.size ≤ i := ParkX.new H5.out.park i o h; have := NW.out; omega)
                  have hb : ∀ j, j < 11 → w6.cell? ⟨w4.heap.size + 1, j, none⟩ = Z.arr[j]? := fun j _ => blk_cell bz6 j
                  have l6 := lt_of_blk bz6
                  have n6 : w4.heap.size + 1 ≠ w6.heap.size := by omega
                  clear hp6 ho6 hc6 bz6 PQ z_0 z_1 z_2 z_3 z_4 z_5 z_6 z_7 z_8 z_9 z_10
                  have u_0 := hb 0 (by omega)
                  have u_1 := hb 1 (by omega)
                  have u_2 := hb 2 (by omega)
                  have u_3 := hb 3 (by omega)
                  have u_4 := hb 4 (by omega)
                  have u_5 := hb 5 (by omega)
                  have u_6 := hb 6 (by omega)
                  have u_7 := hb 7 (by omega)
                  have u_8 := hb 8 (by omega)
                  have u_9 := hb 9 (by omega)
                  have u_10 := hb 10 (by omega)
                  simp only [Edu.cells, List.getElem?_cons_zero, List.getElem?_cons_succ, List.getElem?_toArray, Nat.add_zero] at u_0 u_1 u_2 u_3 u_4 u_5 u_6 u_7 u_8 u_9 u_10
                  clear hb
                  have hq := neqE Z Z
                  rw [decide_eq_true rfl] at hq
                  simp only [Bool.not_true] at hq
                  unfold Edu.agg at hq
                  cases G
                  all_goals
                    go_wp2_with fail
                    clear u_0 u_1 u_2 u_3 u_4 u_5 u_6 u_7 u_8 u_9 u_10 hq
                    have d0 : Chg NoM w6 (w6.alloc (.cells #[.int .i64 Z.kind, .string Z.room, .string Z.user, .string Z.event, .string Z.thread, .bool Z.priv, .bool Z.isOn, .int .i64 Z.span, .int .i64 Z.state, .int .i64 Z.tick, .int .i64 Z.stamp] 32)) := (Chg.refl w6).alloc _
                    generalize w6.alloc (.cells #[.int .i64 Z.kind, .string Z.room, .string Z.user, .string Z.event, .string Z.thread, .bool Z.priv, .bool Z.isOn, .int .i64 Z.span, .int .i64 Z.state, .int .i64 Z.tick, .int .i64 Z.stamp] 32) = wk at d0 ⊢
                    have PK := Lib.hid (P6.out.chgNo d0)
                    have BXK := Lib.hid (d0.blkNo BX6.out)
                    have CK := Lib.hid (C6.out.trans d0)
                    clear d0
                    refine wp_region_sig 20 (fun w' => Chg NoM wk w') [.L [0, 2, 3], .K 1, .K 4, .L [5, 6, 7, 9, 10, 11], .K 8, .L [12, 13, 14, 15, 17, 18], .K 16, .L [19], .N [20]] rfl (fun _ _ d _ _ h => by cases d <;> exact h) (fun _ h => h) (by kernel_rfl) ((Chg.refl wk).drew) ?_
                    apply sigL (Nat.le_refl _)
                    · intro w' hS
                      have y1 := blk_cell (hS.blkNo BXK.out) 1
                      (simp only [wpPl, pickOps, List.filterMap_cons, List.filterMap_nil, List.getElem?_toArray, List.getElem?_cons_zero, List.getElem?_cons_succ]; iterate 3 (go_wp2; refine ⟨trivial, ?_⟩)); rfl
                    apply sigK
                    simp only [pickOps, List.filterMap_cons, List.filterMap_nil, List.getElem?_toArray, List.getElem?_cons_zero, List.getElem?_cons_succ]
                    go_wp2_with fail
                    refine (all_any wo.heap.size wo.heap.size n lo2 L2 v2 wk.drew (PK.out.park.chgNo ((Chg.refl wk).drew)) (by omega)).mono ?_
                    rintro en w8 ⟨vall, rfl, hr8, hc8⟩
                    obtain ⟨A8, c8, rfl⟩ := hr8.slice
                    have D8 : Hid (Chg NoM wk w8) := Chg.ofDrew hc8
                    have SM := Lib.hid (same_eo A8 B4 c8 cb4 L2 w8 (EO.of hr8) (PK.out.ref.chgNo D8.out) (by omega))
                    clear hr8 hc8
                    go_wp2_with fail
                    refine ⟨D8.out, ?_⟩
                    apply sigK
                    simp only [pickOps, List.filterMap_cons, List.filterMap_nil, List.getElem?_toArray, List.getElem?_cons_zero, List.getElem?_cons_succ]
                    go_wp2_with fail
                    refine SM.out.mono ?_
                    rintro en w9 ⟨rfl, hc9⟩
                    have D9 := Lib.hid (D8.out.trans hc9)
                    clear hc9 SM
                    go_wp2_with fail
                    refine ⟨D9.out, ?_⟩
                    apply sigL (by simp)
                    · intro w' hS
                      have y1 := blk_cell (hS.blkNo BXK.out) 1
                      (simp only [wpPl, pickOps, List.filterMap_cons, List.filterMap_nil, List.getElem?_toArray, List.getElem?_cons_zero, List.getElem?_cons_succ]; iterate 6 (go_wp2; refine ⟨trivial, ?_⟩)); rfl
                    apply sigK
                    simp only [pickOps, List.filterMap_cons, List.filterMap_nil, List.getElem?_toArray, List.getElem?_cons_zero, List.getElem?_cons_succ]
                    go_wp2_with fail
                    refine (len_any wo.heap.size wo.heap.size n lo2 L2 v2 w9 (PK.out.park.chgNo D9.out)).mono ?_
                    rintro en w10 ⟨rfl, rfl⟩
                    go_wp2_with fail
                    refine ⟨D9.out, ?_⟩
                    apply sigL (by simp)
                    · intro w' hS
                      have y2 := blk_cell (hS.blkNo BXK.out) 2
                      (simp only [wpPl, pickOps, List.filterMap_cons, List.filterMap_nil, List.getElem?_toArray, List.getElem?_cons_zero, List.getElem?_cons_succ]; iterate 6 (go_wp2; refine ⟨trivial, ?_⟩)); rfl
                    apply sigK
                    simp only [pickOps, List.filterMap_cons, List.filterMap_nil, List.getElem?_toArray, List.getElem?_cons_zero, List.getElem?_cons_succ]
                    go_wp2_with fail
                    refine (lost_any wo.heap.size wo.heap.size n lo2 L2 v2 w9 (PK.out.park.chgNo D9.out)).mono ?_
                    rintro en w10 ⟨rfl, rfl⟩
                    go_wp2_with fail
                    refine ⟨D9.out, ?_⟩
                    apply sigL (by simp)
                    · intro w' hS
                      (simp only [wpPl, pickOps, List.filterMap_cons, List.filterMap_nil, List.getElem?_toArray, List.getElem?_cons_zero, List.getElem?_cons_succ]; iterate 1 (go_wp2; refine ⟨trivial, ?_⟩)); rfl
                    apply sigN
                    simp only [pickOps, List.filterMap_cons, List.filterMap_nil, List.getElem?_toArray, List.getElem?_cons_zero, List.getElem?_cons_succ]
                    go_wp2_with fail
                    apply sigEnd
                    go_wp2_with fail
                    exact ⟨⟨k + 1, L2, lo2, v2, B4, cb4, by omega, by omega, by go_num, PK.out.chgNo D9.out, D9.out.blkNo BXK.out, FB4, by omega, by omega, by omega, CK.out.trans D9.out⟩, by simp [intOf]; omega⟩
                · skip
                  have hb : ∀ j, j < 11 → wy.cell? ⟨eb, j, none⟩ = fe2.arr[j]? := fun j _ => blk_cell BE.out j
                  have z_0 := hb 0 (by omega)
                  have z_1 := hb 1 (by omega)
                  have z_2 := hb 2 (by omega)
                  have z_3 := hb 3 (by omega)
                  have z_4 := hb 4 (by omega)
                  have z_5 := hb 5 (by omega)
                  have z_6 := hb 6 (by omega)
                  have z_7 := hb 7 (by omega)
                  have z_8 := hb 8 (by omega)
                  have z_9 := hb 9 (by omega)
                  have z_10 := hb 10 (by omega)
                  simp only [Edu.cells, List.getElem?_cons_zero, List.getElem?_cons_succ, List.getElem?_toArray, Nat.add_zero] at z_0 z_1 z_2 z_3 z_4 z_5 z_6 z_7 z_8 z_9 z_10
                  clear hb
                  have TQ := Lib.hid (fun V hV => take_any wo.heap.size wo.heap.size n lost l v fe2.room fe2.event V hV (by omega))
                  have RQ := Lib.hid (rtake_any B cb n lost l fe2.room fe2.event wy PY.out.ref (by omega))
                  have lfl := List.length_filter_le (fun e => !isE fe2.room fe2.event e) l
                  have tal := List.length_filter_le (isE fe2.room fe2.event) l
                  generalize l.filter (fun e => !isE fe2.room fe2.event e) = lf at TQ RQ lfl
                  generalize l.filter (isE fe2.room fe2.event) = ta at TQ RQ tal
                  go_wp2_with (refine wpList_load_row rfl 41 (.tmp 11) rfl w1.heap.size rfl 41 #[.int .i64 n, .slice B l.length cb, .int .i64 lost] (0, 0) _ BXY.out Try.underlying41 rfl (by kernel_rfl) ?_)
                  refine RQ.out.mono ?_
                  rintro en w4 ⟨B4, cb4, vw, rfl, hr4, hf4, hw4, hc4⟩
                  obtain ⟨Aw, cw, rfl⟩ := hw4.slice
                  have E4 := Lib.hid hc4
                  have H4 := Lib.hid (PY.out.half hr4 hf4 hc4)
                  have BX4 := Lib.hid (hc4.blkNo BXY.out)
                  have BE4 := Lib.hid (hc4.blkNo BE.out)
                  have W4 := Lib.hid hw4
                  have FB4 : Hid (∀ g off x, B4 = some ⟨g, off, x⟩ → w1.heap.size < g) := by
                    intro g off x h
                    rcases hf4 g off x h with h' | h'
                    · exact FB.out g off x (h' ▸ h)
                    · have := LB1.out; have := EY.out.size; have := h'.1; omega
                  clear hr4 hf4 hc4 hw4 RQ z_0 z_1 z_2 z_3 z_4 z_5 z_6 z_7 z_8 z_9 z_10
                  go_wp2_with (refine wpList_store_row rfl 41 (.tmp 11) (.tmp 86) rfl w1.heap.size rfl #[.int .i64 n, .slice B4 lf.length cb4, .int .i64 lost] rfl 41 #[.int .i64 n, .slice B l.length cb, .int .i64 lost] (blk_alloc BX4.out _) (by kernel_rfl) rfl (by simp [Value.oneCell']) ?_)
                  intro w5 hb5 hc5 hs5
                  have E5 : Hid (Chg (BoxM w1.heap.size 41) w4 w5) := ((Chg.refl w4).alloc _).trans hc5
                  have BX5 := Lib.hid hb5
                  have H5 : Hid (Half w5 wo.heap.size wo.heap.size n l lost v B4 lf) :=
                    ⟨H4.out.park.chg E5.out (fun _ _ => BoxM.ne (by decide)) (fun _ _ _ _ => BoxM.ne (by decide)), H4.out.ref.chg E5.out (fun g off o hA _ h => by have := FB4.out g off none hA; have := h.1; omega), fun g off x hA => ⟨Nat.lt_of_lt_of_le (H4.out.sep g off x hA).1 E5.out.size, (H4.out.sep g off x hA).2⟩⟩
                  have BE5 := Lib.hid (E5.out.block _ _ BE4.out (BoxM.ne (by decide)))
                  have W5 := Lib.hid (Row.chg W4.out E5.out (fun _ _ _ _ _ => BoxM.ne (by decide)))
                  have C5 : Hid (Chg NoM w w5) := ((C.out.trans EY.out).trans E4.out).thenAll E5.out (fun i o h => by rw [h.1]; have := N1.out; have := NW.out; omega)
                  clear hb5 hc5 hs5
                  have hb : ∀ j, j < 11 → w5.cell? ⟨eb, j, none⟩ = fe2.arr[j]? := fun j _ => blk_cell BE5.out j
                  have z_0 := hb 0 (by omega)
                  have z_1 := hb 1 (by omega)
                  have z_2 := hb 2 (by omega)
                  have z_3 := hb 3 (by omega)
                  have z_4 := hb 4 (by omega)
                  have z_5 := hb 5 (by omega)
                  have z_6 := hb 6 (by omega)
                  have z_7 := hb 7 (by omega)
                  have z_8 := hb 8 (by omega)
                  have z_9 := hb 9 (by omega)
                  have z_10 := hb 10 (by omega)
                  simp only [Edu.cells, List.getElem?_cons_zero, List.getElem?_cons_succ, List.getElem?_toArray, Nat.add_zero] at z_0 z_1 z_2 z_3 z_4 z_5 z_6 z_7 z_8 z_9 z_10
                  clear hb
                  go_wp2_with fail
                  refine (TQ.out w5 H5.out.park).mono ?_
                  rintro en w6 ⟨vt, v2, rfl, ht6, hp6, ho6, hc6⟩
                  obtain ⟨At, ct2, rfl⟩ := ht6.slice
                  have P6 := Lib.hid (H5.out.pair hp6 ho6 hc6)
                  have BX6 := Lib.hid (hc6.block _ _ BX5.out (ParkX.ne (by decide) (by decide)))
                  have W6 : Hid (ERow w6 wy.heap.size (.slice Aw ta.length cw) ta) := Row.chg W5.out hc6 (fun g c f hg hbg => by
                    rintro (⟨_, _, _, h⟩ | h)
                    · injection h with _ h; cases h
                    · have := Row.own_lt PY.out.park.2.2 h.own; omega)
                  have C6 : Hid (Chg NoM w w6) := C5.out.thenAll hc6 (fun i o h => by have h1 : wo.heap.size ≤ i := ParkX.new H5.out.park i o h; have := NW.out; omega)
                  have SMT := Lib.hid (same_eo At Aw ct2 cw ta w6 (EO.of ht6) (EO.of W6.out) (by omega))
                  clear ht6 hp6 ho6 hc6 TQ z_0 z_1 z_2 z_3 z_4 z_5 z_6 z_7 z_8 z_9 z_10
                  go_wp2_with fail
                  refine SMT.out.mono ?_
                  rintro en wk ⟨rfl, hck⟩
                  have PK := Lib.hid (P6.out.chgNo hck)
                  have BXK := Lib.hid (hck.blkNo BX6.out)
                  have CK := Lib.hid (C6.out.trans hck)
                  clear hck SMT
                  go_wp2_with fail
                  refine wp_region_sig 20 (fun w' => Chg NoM wk w') [.L [0, 2, 3], .K 1, .K 4, .L [5, 6, 7, 9, 10, 11], .K 8, .L [12, 13, 14, 15, 17, 18], .K 16, .L [19], .N [20]] rfl (fun _ _ d _ _ h => by cases d <;> exact h) (fun _ h => h) (by kernel_rfl) ((Chg.refl wk).drew) ?_
                  apply sigL (Nat.le_refl _)
                  · intro w' hS
                    have y1 := blk_cell (hS.blkNo BXK.out) 1
                    (simp only [wpPl, pickOps, List.filterMap_cons, List.filterMap_nil, List.getElem?_toArray, List.getElem?_cons_zero, List.getElem?_cons_succ]; iterate 3 (go_wp2; refine ⟨trivial, ?_⟩)); rfl
                  apply sigK
                  simp only [pickOps, List.filterMap_cons, List.filterMap_nil, List.getElem?_toArray, List.getElem?_cons_zero, List.getElem?_cons_succ]
                  go_wp2_with fail
                  refine (all_any wo.heap.size wo.heap.size n lost lf v2 wk.drew (PK.out.park.chgNo ((Chg.refl wk).drew)) (by omega)).mono ?_
                  rintro en w8 ⟨vall, rfl, hr8, hc8⟩
                  obtain ⟨A8, c8, rfl⟩ := hr8.slice
                  have D8 : Hid (Chg NoM wk w8) := Chg.ofDrew hc8
                  have SM := Lib.hid (same_eo A8 B4 c8 cb4 lf w8 (EO.of hr8) (PK.out.ref.chgNo D8.out) (by omega))
                  clear hr8 hc8
                  go_wp2_with fail
                  refine ⟨D8.out, ?_⟩
                  apply sigK
                  simp only [pickOps, List.filterMap_cons, List.filterMap_nil, List.getElem?_toArray, List.getElem?_cons_zero, List.getElem?_cons_succ]
                  go_wp2_with fail
                  refine SM.out.mono ?_
                  rintro en w9 ⟨rfl, hc9⟩
                  have D9 := Lib.hid (D8.out.trans hc9)
                  clear hc9 SM
                  go_wp2_with fail
                  refine ⟨D9.out, ?_⟩
                  apply sigL (by simp)
                  · intro w' hS
                    have y1 := blk_cell (hS.blkNo BXK.out) 1
                    (simp only [wpPl, pickOps, List.filterMap_cons, List.filterMap_nil, List.getElem?_toArray, List.getElem?_cons_zero, List.getElem?_cons_succ]; iterate 6 (go_wp2; refine ⟨trivial, ?_⟩)); rfl
                  apply sigK
                  simp only [pickOps, List.filterMap_cons, List.filterMap_nil, List.getElem?_toArray, List.getElem?_cons_zero, List.getElem?_cons_succ]
                  go_wp2_with fail
                  refine (len_any wo.heap.size wo.heap.size n lost lf v2 w9 (PK.out.park.chgNo D9.out)).mono ?_
                  rintro en w10 ⟨rfl, rfl⟩
                  go_wp2_with fail
                  refine ⟨D9.out, ?_⟩
                  apply sigL (by simp)
                  · intro w' hS
                    have y2 := blk_cell (hS.blkNo BXK.out) 2
                    (simp only [wpPl, pickOps, List.filterMap_cons, List.filterMap_nil, List.getElem?_toArray, List.getElem?_cons_zero, List.getElem?_cons_succ]; iterate 6 (go_wp2; refine ⟨trivial, ?_⟩)); rfl
                  apply sigK
                  simp only [pickOps, List.filterMap_cons, List.filterMap_nil, List.getElem?_toArray, List.getElem?_cons_zero, List.getElem?_cons_succ]
                  go_wp2_with fail
                  refine (lost_any wo.heap.size wo.heap.size n lost lf v2 w9 (PK.out.park.chgNo D9.out)).mono ?_
                  rintro en w10 ⟨rfl, rfl⟩
                  go_wp2_with fail
                  refine ⟨D9.out, ?_⟩
                  apply sigL (by simp)
                  · intro w' hS
                    (simp only [wpPl, pickOps, List.filterMap_cons, List.filterMap_nil, List.getElem?_toArray, List.getElem?_cons_zero, List.getElem?_cons_succ]; iterate 1 (go_wp2; refine ⟨trivial, ?_⟩)); rfl
                  apply sigN
                  simp only [pickOps, List.filterMap_cons, List.filterMap_nil, List.getElem?_toArray, List.getElem?_cons_zero, List.getElem?_cons_succ]
                  go_wp2_with fail
                  apply sigEnd
                  go_wp2_with fail
                  exact ⟨⟨k + 1, lf, lost, v2, B4, cb4, by omega, by omega, by go_num, PK.out.chgNo D9.out, D9.out.blkNo BXK.out, FB4, by omega, by omega, by omega, CK.out.trans D9.out⟩, by simp [intOf]; omega⟩
              · skip
                have hb : ∀ j, j < 11 → wy.cell? ⟨eb, j, none⟩ = fe2.arr[j]? := fun j _ => blk_cell BE.out j
                have z_0 := hb 0 (by omega)
                have z_1 := hb 1 (by omega)
                have z_2 := hb 2 (by omega)
                have z_3 := hb 3 (by omega)
                have z_4 := hb 4 (by omega)
                have z_5 := hb 5 (by omega)
                have z_6 := hb 6 (by omega)
                have z_7 := hb 7 (by omega)
                have z_8 := hb 8 (by omega)
                have z_9 := hb 9 (by omega)
                have z_10 := hb 10 (by omega)
                simp only [Edu.cells, List.getElem?_cons_zero, List.getElem?_cons_succ, List.getElem?_toArray, Nat.add_zero] at z_0 z_1 z_2 z_3 z_4 z_5 z_6 z_7 z_8 z_9 z_10
                clear hb
                have PQ := Lib.hid (fun V hV => put_eq wo.heap.size wo.heap.size n lost l v fe2 V hV hln (by omega) hl0 (by omega))
                have RQ := Lib.hid (rput_eq B cb n lost l fe2 wy PY.out.ref hln (by omega) (by omega) hl0 (by omega))
                have hpl := putL_len (e := fe2) hln
                have hcb := putC_bd n lost l fe2
                generalize putL n l fe2 = L2 at PQ RQ hpl
                generalize putC n lost l fe2 = lo2 at PQ RQ hcb
                generalize putZ n l fe2 = Z at PQ RQ
                generalize putG n l fe2 = G at PQ RQ
                unfold Edu.agg at PQ RQ
                obtain ⟨hcb1, hcb2⟩ := hcb
                have lo0 : 0 ≤ lo2 := by omega
                have lo1 : lo2 ≤ (k : Int) + 1 := by omega
                clear hcb1 hcb2 hlk
                go_wp2_with (refine wpList_load_row rfl 41 (.tmp 11) rfl w1.heap.size rfl 41 #[.int .i64 n, .slice B l.length cb, .int .i64 lost] (0, 0) _ BXY.out Try.underlying41 rfl (by kernel_rfl) ?_)
                refine RQ.out.mono ?_
                rintro en w4 ⟨B4, cb4, rfl, hr4, hf4, hc4⟩
                have E4 := Lib.hid hc4
                have H4 := Lib.hid (PY.out.half hr4 hf4 hc4)
                have BX4 := Lib.hid (hc4.blkNo BXY.out)
                have BE4 := Lib.hid (hc4.blkNo BE.out)
                have FB4 : Hid (∀ g off x, B4 = some ⟨g, off, x⟩ → w1.heap.size < g) := by
                  intro g off x h
                  rcases hf4 g off x h with h' | h'
                  · exact FB.out g off x (h' ▸ h)
                  · have := LB1.out; have := EY.out.size; have := h'.1; omega
                clear hr4 hf4 hc4 RQ z_0 z_1 z_2 z_3 z_4 z_5 z_6 z_7 z_8 z_9 z_10
                go_wp2_with (refine wpList_store_row rfl 41 (.tmp 11) (.tmp 103) rfl w1.heap.size rfl #[.int .i64 n, .slice B4 L2.length cb4, .int .i64 lo2] rfl 41 #[.int .i64 n, .slice B l.length cb, .int .i64 lost] (blk_alloc (blk_alloc BX4.out _) _) (by kernel_rfl) rfl (by simp [Value.oneCell']) ?_)
                intro w5 hb5 hc5 hs5
                have E5 : Hid (Chg (BoxM w1.heap.size 41) w4 w5) := (((Chg.refl w4).alloc _).alloc _).trans hc5
                have BX5 := Lib.hid hb5
                have bz5 : w5.heap[w4.heap.size + 1]? = some (.cells Z.arr 32 (0, 0)) := by
                  have h := hc5.block _ _ (blk_new (w4.alloc _) _) (BoxM.ne (by decide))
                  simp only [heap_size_alloc'] at h
                  exact h
                have BZ5 := Lib.hid bz5
                have H5 : Hid (Half w5 wo.heap.size wo.heap.size n l lost v B4 L2) :=
                  ⟨H4.out.park.chg E5.out (fun _ _ => BoxM.ne (by decide)) (fun _ _ _ _ => BoxM.ne (by decide)), H4.out.ref.chg E5.out (fun g off o hA _ h => by have := FB4.out g off none hA; have := h.1; omega), fun g off x hA => ⟨Nat.lt_of_lt_of_le (H4.out.sep g off x hA).1 E5.out.size, (H4.out.sep g off x hA).2⟩⟩
                have BE5 := Lib.hid (E5.out.block _ _ BE4.out (BoxM.ne (by decide)))
                have C5 : Hid (Chg NoM w w5) := ((C.out.trans EY.out).trans E4.out).thenAll E5.out (fun i o h => by rw [h.1]; have := N1.out; have := NW.out; omega)
                have S4 : Hid (wy.heap.size ≤ w4.heap.size) := E4.out.size
                have S5 : Hid (w4.heap.size + 1 < w5.heap.size) := lt_of_blk bz5
                clear hb5 hc5 hs5 bz5
                have hb : ∀ j, j < 11 → w5.cell? ⟨eb, j, none⟩ = fe2.arr[j]? := fun j _ => blk_cell BE5.out j
                have z_0 := hb 0 (by omega)
                have z_1 := hb 1 (by omega)
                have z_2 := hb 2 (by omega)
                have z_3 := hb 3 (by omega)
                have z_4 := hb 4 (by omega)
                have z_5 := hb 5 (by omega)
                have z_6 := hb 6 (by omega)
                have z_7 := hb 7 (by omega)
                have z_8 := hb 8 (by omega)
                have z_9 := hb 9 (by omega)
                have z_10 := hb 10 (by omega)
                simp only [Edu.cells, List.getElem?_cons_zero, List.getElem?_cons_succ, List.getElem?_toArray, Nat.add_zero] at z_0 z_1 z_2 z_3 z_4 z_5 z_6 z_7 z_8 z_9 z_10
                clear hb
                go_wp2_with fail
                refine (PQ.out w5 H5.out.park).mono ?_
                rintro en w6 ⟨rfl, v2, hp6, ho6, hc6⟩
                have P6 := Lib.hid (H5.out.pair hp6 ho6 hc6)
                have BX6 := Lib.hid (hc6.block _ _ BX5.out (ParkX.ne (by decide) (by decide)))
                have bz6 := hc6.block _ _ BZ5.out (by
                  rintro (⟨_, _, _, h⟩ | h)
                  · injection h with _ h; cases h
                  · have := Row.own_lt PY.out.park.2.2 h.own; have := S4.out; omega)
                have C6 : Hid (Chg NoM w w6) := C5.out.thenAll hc6 (fun i o h => by have h1 : wo.heap.size ≤ i := ParkX.new H5.out.park i o h; have := NW.out; omega)
                have hb : ∀ j, j < 11 → w6.cell? ⟨w4.heap.size + 1, j, none⟩ = Z.arr[j]? := fun j _ => blk_cell bz6 j
                have l6 := lt_of_blk bz6
                have n6 : w4.heap.size + 1 ≠ w6.heap.size := by omega
                clear hp6 ho6 hc6 bz6 PQ z_0 z_1 z_2 z_3 z_4 z_5 z_6 z_7 z_8 z_9 z_10
                have u_0 := hb 0 (by omega)
                have u_1 := hb 1 (by omega)
                have u_2 := hb 2 (by omega)
                have u_3 := hb 3 (by omega)
                have u_4 := hb 4 (by omega)
                have u_5 := hb 5 (by omega)
                have u_6 := hb 6 (by omega)
                have u_7 := hb 7 (by omega)
                have u_8 := hb 8 (by omega)
                have u_9 := hb 9 (by omega)
                have u_10 := hb 10 (by omega)
                simp only [Edu.cells, List.getElem?_cons_zero, List.getElem?_cons_succ, List.getElem?_toArray, Nat.add_zero] at u_0 u_1 u_2 u_3 u_4 u_5 u_6 u_7 u_8 u_9 u_10
                clear hb
                have hq := neqE Z Z
                rw [decide_eq_true rfl] at hq
                simp only [Bool.not_true] at hq
                unfold Edu.agg at hq
                cases G
                all_goals
                  go_wp2_with fail
                  clear u_0 u_1 u_2 u_3 u_4 u_5 u_6 u_7 u_8 u_9 u_10 hq
                  have d0 : Chg NoM w6 (w6.alloc (.cells #[.int .i64 Z.kind, .string Z.room, .string Z.user, .string Z.event, .string Z.thread, .bool Z.priv, .bool Z.isOn, .int .i64 Z.span, .int .i64 Z.state, .int .i64 Z.tick, .int .i64 Z.stamp] 32)) := (Chg.refl w6).alloc _
                  generalize w6.alloc (.cells #[.int .i64 Z.kind, .string Z.room, .string Z.user, .string Z.event, .string Z.thread, .bool Z.priv, .bool Z.isOn, .int .i64 Z.span, .int .i64 Z.state, .int .i64 Z.tick, .int .i64 Z.stamp] 32) = wk at d0 ⊢
                  have PK := Lib.hid (P6.out.chgNo d0)
                  have BXK := Lib.hid (d0.blkNo BX6.out)
                  have CK := Lib.hid (C6.out.trans d0)
                  clear d0
                  refine wp_region_sig 20 (fun w' => Chg NoM wk w') [.L [0, 2, 3], .K 1, .K 4, .L [5, 6, 7, 9, 10, 11], .K 8, .L [12, 13, 14, 15, 17, 18], .K 16, .L [19], .N [20]] rfl (fun _ _ d _ _ h => by cases d <;> exact h) (fun _ h => h) (by kernel_rfl) ((Chg.refl wk).drew) ?_
                  apply sigL (Nat.le_refl _)
                  · intro w' hS
                    have y1 := blk_cell (hS.blkNo BXK.out) 1
                    (simp only [wpPl, pickOps, List.filterMap_cons, List.filterMap_nil, List.getElem?_toArray, List.getElem?_cons_zero, List.getElem?_cons_succ]; iterate 3 (go_wp2; refine ⟨trivial, ?_⟩)); rfl
                  apply sigK
                  simp only [pickOps, List.filterMap_cons, List.filterMap_nil, List.getElem?_toArray, List.getElem?_cons_zero, List.getElem?_cons_succ]
                  go_wp2_with fail
                  refine (all_any wo.heap.size wo.heap.size n lo2 L2 v2 wk.drew (PK.out.park.chgNo ((Chg.refl wk).drew)) (by omega)).mono ?_
                  rintro en w8 ⟨vall, rfl, hr8, hc8⟩
                  obtain ⟨A8, c8, rfl⟩ := hr8.slice
                  have D8 : Hid (Chg NoM wk w8) := Chg.ofDrew hc8
                  have SM := Lib.hid (same_eo A8 B4 c8 cb4 L2 w8 (EO.of hr8) (PK.out.ref.chgNo D8.out) (by omega))
                  clear hr8 hc8
                  go_wp2_with fail
                  refine ⟨D8.out, ?_⟩
                  apply sigK
                  simp only [pickOps, List.filterMap_cons, List.filterMap_nil, List.getElem?_toArray, List.getElem?_cons_zero, List.getElem?_cons_succ]
                  go_wp2_with fail
                  refine SM.out.mono ?_
                  rintro en w9 ⟨rfl, hc9⟩
                  have D9 := Lib.hid (D8.out.trans hc9)
                  clear hc9 SM
                  go_wp2_with fail
                  refine ⟨D9.out, ?_⟩
                  apply sigL (by simp)
                  · intro w' hS
                    have y1 := blk_cell (hS.blkNo BXK.out) 1
                    (simp only [wpPl, pickOps, List.filterMap_cons, List.filterMap_nil, List.getElem?_toArray, List.getElem?_cons_zero, List.getElem?_cons_succ]; iterate 6 (go_wp2; refine ⟨trivial, ?_⟩)); rfl
                  apply sigK
                  simp only [pickOps, List.filterMap_cons, List.filterMap_nil, List.getElem?_toArray, List.getElem?_cons_zero, List.getElem?_cons_succ]
                  go_wp2_with fail
                  refine (len_any wo.heap.size wo.heap.size n lo2 L2 v2 w9 (PK.out.park.chgNo D9.out)).mono ?_
                  rintro en w10 ⟨rfl, rfl⟩
                  go_wp2_with fail
                  refine ⟨D9.out, ?_⟩
                  apply sigL (by simp)
                  · intro w' hS
                    have y2 := blk_cell (hS.blkNo BXK.out) 2
                    (simp only [wpPl, pickOps, List.filterMap_cons, List.filterMap_nil, List.getElem?_toArray, List.getElem?_cons_zero, List.getElem?_cons_succ]; iterate 6 (go_wp2; refine ⟨trivial, ?_⟩)); rfl
                  apply sigK
                  simp only [pickOps, List.filterMap_cons, List.filterMap_nil, List.getElem?_toArray, List.getElem?_cons_zero, List.getElem?_cons_succ]
                  go_wp2_with fail
                  refine (lost_any wo.heap.size wo.heap.size n lo2 L2 v2 w9 (PK.out.park.chgNo D9.out)).mono ?_
                  rintro en w10 ⟨rfl, rfl⟩
                  go_wp2_with fail
                  refine ⟨D9.out, ?_⟩
                  apply sigL (by simp)
                  · intro w' hS
                    (simp only [wpPl, pickOps, List.filterMap_cons, List.filterMap_nil, List.getElem?_toArray, List.getElem?_cons_zero, List.getElem?_cons_succ]; iterate 1 (go_wp2; refine ⟨trivial, ?_⟩)); rfl
                  apply sigN
                  simp only [pickOps, List.filterMap_cons, List.filterMap_nil, List.getElem?_toArray, List.getElem?_cons_zero, List.getElem?_cons_succ]
                  go_wp2_with fail
                  apply sigEnd
                  go_wp2_with fail
                  exact ⟨⟨k + 1, L2, lo2, v2, B4, cb4, by omega, by omega, by go_num, PK.out.chgNo D9.out, D9.out.blkNo BXK.out, FB4, by omega, by omega, by omega, CK.out.trans D9.out⟩, by simp [intOf]; omega⟩
          · obtain rfl : k = 16 := by omega
            go_wp2_with fail
            exact ⟨⟨hw + 1, by omega, by rw [HHZ.out]; go_num, C⟩, by have := HHZ.out; simp [intOf]; omega⟩
        · obtain ⟨kk, hkk⟩ : ∃ kk : Nat, kk = k := ⟨_, rfl⟩
          have hnl : ¬ (kk : Int) < (ds.length : Int) := by omega
          rw [← hkk]
          clear hlk hk16 hk hlt hkk
          go_wp2_with fail
          exact ⟨⟨hw + 1, by omega, by rw [HHZ.out]; go_num, C⟩, by have := HHZ.out; simp [intOf]; omega⟩
    · have j2 : ¬ hz < 2 := by omega
      clear hhz
      go_wp2_with fail
      refine (lives_true _).mono ?_
      rintro en w9 ⟨rfl, hc9⟩
      have C9 := Lib.hid (C0.out.trans hc9)
      clear hc9
      go_wp2_with fail
      go_ret
      exact ⟨rfl, below_of_chg C9.out⟩
end Go.Proofs.Ytccppjhkffmnaaa
