/- The walk of ParkTwice. -/
import Derived.Test.YtccppjhkffmnaaaSame12
import Derived.Test.YtccppjhkffmnaaaPLives
import Derived.Test.YtccppjhkffmnaaaOpenB
namespace Go.Proofs.Ytccppjhkffmnaaa
set_option linter.unusedVariables false
set_option linter.unusedSimpArgs false
open Go.RowKit
/-- The bounds of an EDU that an argument brings. -/
def EduB (e : Edu) : Prop := (-9223372036854775808 ≤ e.span ∧ e.span ≤ 9223372036854775807 ∧ -9223372036854775808 ≤ e.state ∧ e.state ≤ 9223372036854775807) ∧
  (-9223372036854775808 ≤ e.tick ∧ e.tick ≤ 9223372036854775807 ∧ -9223372036854775808 ≤ e.stamp ∧ e.stamp ≤ 9223372036854775807) ∧ e.event.size ≤ 9223372036854775807 ∧ e.thread.size ≤ 9223372036854775807
def EduR (w : World) (d : Edu) (c : List Value) : Prop := c = d.cells ∧ EduB d
theorem edu_at {w wr : World} {A : Option Addr} {ds : List Edu} (h : RowsAt EduR 11 w A ds) (hc : Chg NoM w wr) (k : Nat) (hk : k < ds.length) :
    ∃ b off d, A = some ⟨b, off, none⟩ ∧ (∀ j, j < 11 → wr.cell? ⟨b, off + k * 11 + j, none⟩ = d.cells[j]?) ∧ EduB d ∧ b < w.heap.size ∧ ds[k]? = some d := by
  obtain ⟨b, off, hA, hall⟩ := h.2.2 (by omega)
  obtain ⟨c, ⟨hcs, h1⟩, _, hcell⟩ := hall k _ (List.getElem?_eq_getElem hk)
  subst hcs
  have c0 := hcell 0 _ rfl
  refine ⟨b, off, ds[k], hA, fun j hj => ?_, h1, World.block_lt_of_cell? w _ c0, List.getElem?_eq_getElem hk⟩
  have hj' : j < ds[k].cells.length := by simp [Edu.cells]; omega
  rw [List.getElem?_eq_getElem hj']
  exact hc.cellNo (hcell j _ (List.getElem?_eq_getElem hj'))
theorem waits_b (e : Edu) (w : World) (h : EduB e) : Calls Try.prog 12 #[e.agg] w fun en w' => ∃ f : Edu, en = .returned f.agg ∧ Chg NoM w w' :=
  waits_some e w h.1.1 h.1.2.1 h.1.2.2.1 h.1.2.2.2 h.2.1.1 h.2.1.2.1 h.2.1.2.2.1 h.2.1.2.2.2 h.2.2.1 h.2.2.2
/-- Whatever is put. -/
theorem put_any (base pb : Nat) (most lost : Int) (l : List Edu) (v : Value) (e : Edu) (w : World) (hp : ParkAt w base pb most l lost v) (hl : (l.length : Int) ≤ most) (hm : most ≤ 1000) (h1 : 1 ≤ most) (h0 : 0 ≤ lost) (hb : lost ≤ 1000) :
    Calls Try.prog 11 #[.pointer (some ⟨pb, 0, none⟩), e.agg] w fun en w' => ∃ x b l' lost' v', en = .returned (.tuple #[x, .bool b]) ∧ ParkAt w' base pb most l' lost' v' ∧ (l'.length : Int) ≤ most ∧ 0 ≤ lost' ∧ lost' ≤ lost + 1 ∧ Chg (ParkX pb v) w w' := by
  by_cases he : e ∈ l
  · refine (put_has base pb most lost l v e w hp he).mono ?_
    rintro en w' ⟨rfl, hc⟩
    exact ⟨_, _, l, lost, v, rfl, ⟨hp.1, hc.blkNo hp.2.1, hp.2.2.chgNo hc⟩, hl, h0, by omega, Chg.ofNo hc⟩
  · by_cases hlt : (l.length : Int) < most
    · refine (put_room base pb most lost l v e w hp he hlt hm).mono ?_
      rintro en w' ⟨rfl, v', hp', -, hc⟩
      exact ⟨_, _, _, lost, v', rfl, hp', by simp; omega, h0, by omega, hc⟩
    · have hz : ∃ f, (l ++ [e])[0]? = some f := ⟨_, List.getElem?_eq_getElem (by simp)⟩
      obtain ⟨f, hf⟩ := hz
      refine (put_full base pb most lost l v e f w hp he (by omega) (by omega) hf h0 (by omega)).mono ?_
      rintro en w' ⟨rfl, v', hp', -, hc⟩
      exact ⟨_, _, _, _, v', rfl, hp', by simp; omega, by omega, by omega, hc⟩
set_option maxHeartbeats 4000000 in
theorem twice_walk (most : Int) (A : Option Addr) (ds : List Edu) (c : Nat) (w : World) (h1 : -9223372036854775808 ≤ most) (h2 : most ≤ 9223372036854775807) (hds : RowsAt EduR 11 w A ds) (hlen : ds.length ≤ 9223372036854775807) :
    Calls Try.prog 4 #[.int .i64 most, .slice A ds.length c] w fun e w' => e = .returned (.bool true) ∧ Below w.heap.size w w' := by
  have HD := Lib.hid hds
  have hg := guard32
  have hb := aroundI_bd most 6 (by omega)
  have A0 := Lib.hid (around_any most 6 w h1 h2 (by omega) (by omega))
  obtain ⟨u, hu⟩ : ∃ x, x = aroundI most 6 := ⟨_, rfl⟩
  rw [← hu] at hb A0
  obtain ⟨hb1, hb2⟩ := hb
  clear hu hds h1 h2
  go_enter Try.func4, Try.ntmps4
  go_wp2_with fail
  refine A0.out.mono ?_
  rintro e w' ⟨rfl, rfl⟩
  go_wp2_with fail
  obtain ⟨n, hn⟩ : ∃ n, n = 1 + u := ⟨_, rfl⟩
  try rw [← hn]
  have hn1 : 1 ≤ n := by omega
  have hn2 : n ≤ 6 := by omega
  refine (new_yes n _ (by omega) (by omega)).mono ?_
  rintro e w1 ⟨rfl, hp, hs, hc⟩
  have C1 := Lib.hid hc
  have P1 := Lib.hid hp
  clear hp hs hc hb1 hb2
  go_wp2_with fail
  go_loopw [8] (fun i wr => ∃ (k : Nat) (l : List Edu) (lost : Int) (v : Value), k ≤ ds.length ∧ k ≤ 8 ∧ i = .int .i64 k ∧ Hid (ParkAt wr w.heap.size w.heap.size n l lost v) ∧ (l.length : Int) ≤ n ∧ 0 ≤ lost ∧ lost ≤ k ∧ Hid (Chg NoM w wr)) (fun i _ => ds.length - (intOf i).toNat)
  case atStart => exact ⟨0, [], 0, _, by omega, by omega, rfl, P1, by simp; omega, by omega, by omega, C1⟩
  case round =>
    obtain ⟨k, l, lost, v, hk, hk8, rfl, P, hln, hl0, hlk, C⟩ := hrel
    by_cases hlt : k < ds.length
    · by_cases h8 : k < 8
      · obtain ⟨b, off, d, rfl, hc, hbd, hbw, hd⟩ := edu_at HD.out C.out k hlt
        have x_0 := hc 0 (by omega)
        have x_1 := hc 1 (by omega)
        have x_2 := hc 2 (by omega)
        have x_3 := hc 3 (by omega)
        have x_4 := hc 4 (by omega)
        have x_5 := hc 5 (by omega)
        have x_6 := hc 6 (by omega)
        have x_7 := hc 7 (by omega)
        have x_8 := hc 8 (by omega)
        have x_9 := hc 9 (by omega)
        have x_10 := hc 10 (by omega)
        simp only [Edu.cells, List.getElem?_cons_zero, List.getElem?_cons_succ, List.getElem?_toArray, Nat.add_zero] at x_0 x_1 x_2 x_3 x_4 x_5 x_6 x_7 x_8 x_9 x_10
        have WB : Hid (∀ V, Calls Try.prog 12 #[d.agg] V fun en w' => ∃ f : Edu, en = .returned f.agg ∧ Chg NoM V w') := fun V => waits_b d V hbd
        have i0 : (0 : Int) ≤ (k : Int) := by omega
        have i1 : (k : Int) < (ds.length : Int) := by omega
        have i2 : (k : Int) < 8 := by omega
        unfold Edu.agg at WB
        clear hc hbd hd
        go_wp2_with fail
        refine (WB.out _).mono ?_
        rintro en w2 ⟨f, rfl, hc2⟩
        have C2 := Lib.hid (C.out.trans hc2)
        have P2 : Hid (ParkAt w2 w.heap.size w.heap.size n l lost v) := ⟨P.out.1, hc2.blkNo P.out.2.1, P.out.2.2.chgNo hc2⟩
        clear hc2 WB
        go_wp2_with fail
        refine (put_any w.heap.size w.heap.size n lost l v f w2 P2.out hln (by omega) (by omega) hl0 (by omega)).mono ?_
        rintro en w3 ⟨x, bb, l', lost', v', rfl, hp', hl', h0', hb', hc3⟩
        have P3 := Lib.hid hp'
        have C3 : Hid (Chg NoM w w3) := C2.out.thenAll hc3 (fun i o h => by exact ParkX.new P2.out i o h)
        clear hp' hc3
        go_wp2_with fail
        exact ⟨⟨k + 1, l', lost', v', by omega, by omega, by go_num, P3, hl', h0', by omega, C3⟩, by simp [intOf]; omega⟩
      · obtain rfl : k = 8 := by omega
        go_wp2_with fail
        refine (all_any w.heap.size w.heap.size n lost l v wr P.out (by omega)).mono ?_
        rintro en w4 ⟨va, rfl, hr4, hc4⟩
        obtain ⟨Aa, ca, rfl, _, _⟩ := Row.slice hr4
        have C4 := Lib.hid (C.out.trans hc4)
        have P4 : Hid (ParkAt w4 w.heap.size w.heap.size n l lost v) := ⟨P.out.1, hc4.blkNo P.out.2.1, P.out.2.2.chgNo hc4⟩
        have R4 := Lib.hid hr4
        clear hc4 hr4 P C
        go_wp2_with fail
        refine (lost_any w.heap.size w.heap.size n lost l v w4 P4.out).mono ?_
        rintro en w5 ⟨rfl, rfl⟩
        go_wp2_with fail
        go_loopw [11] (fun i wr => ∃ j : Nat, j ≤ l.length ∧ i = .int .i64 j ∧ Hid (Chg NoM w4 wr)) (fun i _ => l.length - (intOf i).toNat)
        case atStart => exact ⟨0, by omega, rfl, Chg.refl w4⟩
        case round =>
          obtain ⟨j, hj, rfl, D⟩ := hrel
          have P5 : Hid (ParkAt wr w.heap.size w.heap.size n l lost v) := ⟨P4.out.1, D.out.blkNo P4.out.2.1, P4.out.2.2.chgNo D.out⟩
          by_cases hjl : j < l.length
          · obtain ⟨p, hp⟩ : ∃ p, l[j]? = some p := ⟨_, List.getElem?_eq_getElem hjl⟩
            obtain ⟨g, rfl, _, _, hc⟩ := (R4.out.chgNo D.out).at hp
            have x_0 := hc 0 (by omega)
            have x_1 := hc 1 (by omega)
            have x_2 := hc 2 (by omega)
            have x_3 := hc 3 (by omega)
            have x_4 := hc 4 (by omega)
            have x_5 := hc 5 (by omega)
            have x_6 := hc 6 (by omega)
            have x_7 := hc 7 (by omega)
            have x_8 := hc 8 (by omega)
            have x_9 := hc 9 (by omega)
            have x_10 := hc 10 (by omega)
            simp only [Edu.cells, List.getElem?_cons_zero, List.getElem?_cons_succ, List.getElem?_toArray, Nat.add_zero] at x_0 x_1 x_2 x_3 x_4 x_5 x_6 x_7 x_8 x_9 x_10
            have PH := Lib.hid (put_has w.heap.size w.heap.size n lost l v p wr P5.out (List.mem_of_getElem? hp))
            have i0 : (0 : Int) ≤ (j : Int) := by omega
            have i1 : (j : Int) < (l.length : Int) := by omega
            unfold Edu.agg at PH
            clear hc hp
            go_wp2_with fail
            refine PH.out.mono ?_
            rintro en w6 ⟨rfl, hc6⟩
            have D6 := Lib.hid (D.out.trans hc6)
            clear hc6 PH
            go_wp2_with (refine wpList_store_row rfl 32 (.tmp 12) (.tmp 62) rfl w6.heap.size rfl zarr rfl 32 zarr (blk_new w6 _) (by kernel_rfl) rfl zarr_one ?_)
            intro w7 hb7 hc7 hs7
            have D7 : Hid (Chg NoM w4 w7) := (D6.out.alloc _).thenAll hc7 (fun i o h => by rw [h.1]; exact D6.out.size)
            clear hb7 hc7 hs7
            go_wp2_with fail
            exact ⟨⟨j + 1, by omega, by go_num, D7⟩, by simp [intOf]; omega⟩
          · go_wp2_with fail
            refine (all_any w.heap.size w.heap.size n lost l v wr P5.out (by omega)).mono ?_
            rintro en w8 ⟨vb, rfl, hr8, hc8⟩
            obtain ⟨Ab, cb, rfl, _, _⟩ := Row.slice hr8
            have D8 := Lib.hid (D.out.trans hc8)
            have SM := Lib.hid (same_edus _ _ Ab Aa cb ca l w8 hr8 (R4.out.chgNo D8.out))
            clear hr8 hc8
            go_wp2_with fail
            refine SM.out.mono ?_
            rintro en w9 ⟨rfl, hc9⟩
            have D9 := Lib.hid (D8.out.trans hc9)
            have P9 : Hid (ParkAt w9 w.heap.size w.heap.size n l lost v) := ⟨P4.out.1, D9.out.blkNo P4.out.2.1, P4.out.2.2.chgNo D9.out⟩
            clear hc9 SM
            go_wp2_with fail
            refine (lost_any w.heap.size w.heap.size n lost l v w9 P9.out).mono ?_
            rintro en w10 ⟨rfl, rfl⟩
            go_wp2_with fail
            refine (lives_true _).mono ?_
            rintro en w11 ⟨rfl, hc11⟩
            go_wp2_with fail
            go_ret
            exact ⟨rfl, below_of_chg ((C4.out.trans D9.out).trans hc11)⟩
    · obtain rfl : ds.length = k := by omega
      go_wp2_with fail
      refine (all_any w.heap.size w.heap.size n lost l v wr P.out (by omega)).mono ?_
      rintro en w4 ⟨va, rfl, hr4, hc4⟩
      obtain ⟨Aa, ca, rfl, _, _⟩ := Row.slice hr4
      have C4 := Lib.hid (C.out.trans hc4)
      have P4 : Hid (ParkAt w4 w.heap.size w.heap.size n l lost v) := ⟨P.out.1, hc4.blkNo P.out.2.1, P.out.2.2.chgNo hc4⟩
      have R4 := Lib.hid hr4
      clear hc4 hr4 P C
      go_wp2_with fail
      refine (lost_any w.heap.size w.heap.size n lost l v w4 P4.out).mono ?_
      rintro en w5 ⟨rfl, rfl⟩
      go_wp2_with fail
      go_loopw [11] (fun i wr => ∃ j : Nat, j ≤ l.length ∧ i = .int .i64 j ∧ Hid (Chg NoM w4 wr)) (fun i _ => l.length - (intOf i).toNat)
      case atStart => exact ⟨0, by omega, rfl, Chg.refl w4⟩
      case round =>
        obtain ⟨j, hj, rfl, D⟩ := hrel
        have P5 : Hid (ParkAt wr w.heap.size w.heap.size n l lost v) := ⟨P4.out.1, D.out.blkNo P4.out.2.1, P4.out.2.2.chgNo D.out⟩
        by_cases hjl : j < l.length
        · obtain ⟨p, hp⟩ : ∃ p, l[j]? = some p := ⟨_, List.getElem?_eq_getElem hjl⟩
          obtain ⟨g, rfl, _, _, hc⟩ := (R4.out.chgNo D.out).at hp
          have x_0 := hc 0 (by omega)
          have x_1 := hc 1 (by omega)
          have x_2 := hc 2 (by omega)
          have x_3 := hc 3 (by omega)
          have x_4 := hc 4 (by omega)
          have x_5 := hc 5 (by omega)
          have x_6 := hc 6 (by omega)
          have x_7 := hc 7 (by omega)
          have x_8 := hc 8 (by omega)
          have x_9 := hc 9 (by omega)
          have x_10 := hc 10 (by omega)
          simp only [Edu.cells, List.getElem?_cons_zero, List.getElem?_cons_succ, List.getElem?_toArray, Nat.add_zero] at x_0 x_1 x_2 x_3 x_4 x_5 x_6 x_7 x_8 x_9 x_10
          have PH := Lib.hid (put_has w.heap.size w.heap.size n lost l v p wr P5.out (List.mem_of_getElem? hp))
          have i0 : (0 : Int) ≤ (j : Int) := by omega
          have i1 : (j : Int) < (l.length : Int) := by omega
          unfold Edu.agg at PH
          clear hc hp
          go_wp2_with fail
          refine PH.out.mono ?_
          rintro en w6 ⟨rfl, hc6⟩
          have D6 := Lib.hid (D.out.trans hc6)
          clear hc6 PH
          go_wp2_with (refine wpList_store_row rfl 32 (.tmp 12) (.tmp 62) rfl w6.heap.size rfl zarr rfl 32 zarr (blk_new w6 _) (by kernel_rfl) rfl zarr_one ?_)
          intro w7 hb7 hc7 hs7
          have D7 : Hid (Chg NoM w4 w7) := (D6.out.alloc _).thenAll hc7 (fun i o h => by rw [h.1]; exact D6.out.size)
          clear hb7 hc7 hs7
          go_wp2_with fail
          exact ⟨⟨j + 1, by omega, by go_num, D7⟩, by simp [intOf]; omega⟩
        · go_wp2_with fail
          refine (all_any w.heap.size w.heap.size n lost l v wr P5.out (by omega)).mono ?_
          rintro en w8 ⟨vb, rfl, hr8, hc8⟩
          obtain ⟨Ab, cb, rfl, _, _⟩ := Row.slice hr8
          have D8 := Lib.hid (D.out.trans hc8)
          have SM := Lib.hid (same_edus _ _ Ab Aa cb ca l w8 hr8 (R4.out.chgNo D8.out))
          clear hr8 hc8
          go_wp2_with fail
          refine SM.out.mono ?_
          rintro en w9 ⟨rfl, hc9⟩
          have D9 := Lib.hid (D8.out.trans hc9)
          have P9 : Hid (ParkAt w9 w.heap.size w.heap.size n l lost v) := ⟨P4.out.1, D9.out.blkNo P4.out.2.1, P4.out.2.2.chgNo D9.out⟩
          clear hc9 SM
          go_wp2_with fail
          refine (lost_any w.heap.size w.heap.size n lost l v w9 P9.out).mono ?_
          rintro en w10 ⟨rfl, rfl⟩
          go_wp2_with fail
          refine (lives_true _).mono ?_
          rintro en w11 ⟨rfl, hc11⟩
          go_wp2_with fail
          go_ret
          exact ⟨rfl, below_of_chg ((C4.out.trans D9.out).trans hc11)⟩
end Go.Proofs.Ytccppjhkffmnaaa
