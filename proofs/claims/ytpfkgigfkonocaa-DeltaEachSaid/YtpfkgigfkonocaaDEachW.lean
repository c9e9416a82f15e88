/- The walk of DeltaEach. -/
import Derived.Test.YtpfkgigfkonocaaDEach
namespace Go.Proofs.Ytpfkgigfkonocaa
set_option linter.unusedVariables false
set_option linter.unusedSimpArgs false
open Go.RowKit
theorem SO.take {w : World} {A : Option Addr} {l : List ByteArray} (h : SO w A l) (k : Nat) : SO w A (l.take k) := by
  intro h0
  rw [List.length_take] at h0
  obtain ⟨g, off, hA, hc⟩ := h (by omega)
  refine ⟨g, off, hA, fun j s hs => hc j s ?_⟩
  rw [List.getElem?_take] at hs
  split at hs
  · exact hs
  · cases hs
set_option maxHeartbeats 4000000 in
theorem each_walk (A : Option Addr) (ds : List ByteArray) (c : Nat) (n many : Int) (w : World) (hds : RowsAt StrR 1 w A ds) (h1 : -9223372036854775808 ≤ n) (h2 : n ≤ 9223372036854775807) (h3 : -9223372036854775808 ≤ many) (h4 : many ≤ 9223372036854775807) (hlen : ds.length ≤ 9223372036854775807) :
    Calls Try.prog 7 #[.slice A ds.length c, .int .i64 n, .int .i64 many] w fun e w' => e = .returned (.bool true) ∧ Below w.heap.size w w' := by
  have HD := Lib.hid hds
  have A0 := Lib.hid (fun W => around_any n 13 W h1 h2 (by omega) (by omega))
  have A1 := Lib.hid (fun W => around_any many 12 W h3 h4 (by omega) (by omega))
  have hb := aroundI_bd many 12 (by omega)
  obtain ⟨x, hx⟩ : ∃ x, x = aroundI n 13 := ⟨_, rfl⟩
  rw [← hx] at A0
  obtain ⟨y, hy⟩ : ∃ x, x = aroundI many 12 := ⟨_, rfl⟩
  rw [← hy] at A1 hb
  obtain ⟨y1, y2⟩ := hb
  clear hx hy hds h1 h2 h3 h4
  have FL := Lib.hid (fill_any 0 12 A ds c w w HD.out (Chg.refl w) (by omega) (by omega) (by omega) (by omega) hlen)
  go_enter Try.func7, Try.ntmps7
  go_wp2_with fail
  refine FL.out.mono ?_
  rintro e w1 ⟨lb, own, v, U, cu, rfl, hD1, hsz, hol, hC1⟩
  have D1 := Lib.hid hD1
  have C1 := Lib.hid hC1
  have SZ := Lib.hid hsz
  have hol2 : own.length ≤ 12 := hol
  clear hD1 hC1 hsz FL hol
  go_wp2_with fail
  refine (A0.out _).mono ?_
  rintro e w' ⟨rfl, rfl⟩
  go_wp2_with fail
  refine (A1.out _).mono ?_
  rintro e w' ⟨rfl, rfl⟩
  obtain ⟨kk, hkk⟩ : ∃ kk : Nat, 1 + y = (kk : Int) := ⟨(1 + y).toNat, by omega⟩
  have k1 : 1 ≤ kk := by omega
  have k2 : kk ≤ 12 := by omega
  have HKK := Lib.hid hkk
  clear hkk
  go_wp2_with fail
  rw [HKK.out]
  have c2 : Chg NoM w1 ((w1.alloc (.cells #[.slice U own.length cu] 22)).alloc (.cells #[.int .i64 kk] 3)) := ((Chg.refl w1).alloc _).alloc _
  have b0 : ((w1.alloc (.cells #[.slice U own.length cu] 22)).alloc (.cells #[.int .i64 kk] 3)).heap[w1.heap.size]? = some (.cells #[.slice U own.length cu] 22 (0, 0)) := blk_alloc (blk_new w1 _) _
  have b1 : ((w1.alloc (.cells #[.slice U own.length cu] 22)).alloc (.cells #[.int .i64 kk] 3)).heap[w1.heap.size + 1]? = some (.cells #[.int .i64 kk] 3 (0, 0)) := by
    have h := blk_new (w1.alloc (.cells #[.slice U own.length cu] 22)) (.cells #[.int .i64 kk] 3)
    rwa [show (w1.alloc (.cells #[.slice U own.length cu] 22)).heap.size = w1.heap.size + 1 by simp] at h
  generalize (w1.alloc (.cells #[.slice U own.length cu] 22)).alloc (.cells #[.int .i64 kk] 3) = W at c2 b0 b1 ⊢
  have C2 := Lib.hid c2
  have B0 := Lib.hid b0
  have B1 := Lib.hid b1
  have D2 := Lib.hid (D1.out.chgNo c2)
  clear c2 b0 b1
  refine (rsince_any U cu 0 x own W (SO.ofRow D2.out.row) (by omega) (by omega) (by omega)).mono ?_
  rintro e w3 ⟨A3, c3, rfl, hr3, hc3⟩
  have kl := since_len 0 own x
  obtain ⟨ks, hks⟩ : ∃ ks, ks = sinceL 0 own x := ⟨_, rfl⟩
  rw [← hks] at hr3 kl ⊢
  have hcap : ks.length ≤ c3 := by
    obtain ⟨_, _, he, h1, _⟩ := Row.slice hr3
    injection he with _ _ he
    omega
  have HKS := Lib.hid hks
  have R3 := Lib.hid hr3
  have C3 := Lib.hid hc3
  have D3 := Lib.hid (D2.out.chgNo hc3)
  have B03 := Lib.hid (hc3.blkNo B0.out)
  have B13 := Lib.hid (hc3.blkNo B1.out)
  clear hr3 hc3 hks
  go_wp2_with fail
  have c4 : Chg NoM w3 ((w3.alloc (.cells #[.slice none 0 0] 22)).alloc (.cells #[.bool true] 4)) := ((Chg.refl w3).alloc _).alloc _
  have b2 : ((w3.alloc (.cells #[.slice none 0 0] 22)).alloc (.cells #[.bool true] 4)).heap[w3.heap.size]? = some (.cells #[.slice none 0 0] 22 (0, 0)) := blk_alloc (blk_new w3 _) _
  have b3 : ((w3.alloc (.cells #[.slice none 0 0] 22)).alloc (.cells #[.bool true] 4)).heap[w3.heap.size + 1]? = some (.cells #[.bool true] 4 (0, 0)) := by
    have h := blk_new (w3.alloc (.cells #[.slice none 0 0] 22)) (.cells #[.bool true] 4)
    rwa [show (w3.alloc (.cells #[.slice none 0 0] 22)).heap.size = w3.heap.size + 1 by simp] at h
  generalize (w3.alloc (.cells #[.slice none 0 0] 22)).alloc (.cells #[.bool true] 4) = V at c4 b2 b3 ⊢
  have C4 := Lib.hid c4
  have D4 := Lib.hid (D3.out.chgNo c4)
  have R4 := Lib.hid (Row.chg R3.out c4 (fun _ _ _ _ _ h => h))
  have EA := Lib.hid (each_any w.heap.size lb w.heap.size (w.heap.size + 1) w.heap.size w3.heap.size (w3.heap.size + 1) w1.heap.size (w1.heap.size + 1) kk (0 + ((12 : Nat) : Int)) x U cu own v V D4.out.log SZ.out (by omega) b2 b3 (c4.blkNo B03.out) D4.out.row (c4.blkNo B13.out) (by have := lt_of_blk B03.out; omega) k1 (by omega))
  have B4k := Lib.hid (c4.blkNo B13.out)
  have LW := Lib.hid (lt_of_blk b2)
  clear c4 b2 b3
  refine EA.out.mono ?_
  rw [← HKS.out]
  obtain ⟨l, hl⟩ : ∃ l, l = ks.take kk := ⟨_, rfl⟩
  rw [← hl]
  rintro e w5 ⟨rfl, G', cg', hg5, hr5, hb5, hc5⟩
  have S5 := Lib.hid (SO.ofRow hr5)
  have T5 : Hid (SO w5 A3 l) := by
    rw [hl]
    exact (SO.ofRow (Row.chg R4.out hc5 (fun g c f hg _ h => by have := Row.own_lt R4.out hg; have := h.nine; omega))).take kk
  have BG := Lib.hid hg5
  have BR := Lib.hid hb5
  have BK := Lib.hid (hc5.block _ _ B4k.out (EachM.ne (by decide) (by decide) (by decide)))
  have C5 : Hid (Chg NoM w w5) := ((((C1.out.trans C2.out).trans C3.out).trans C4.out)).thenAll hc5 (by
    rintro i o (⟨rfl, _⟩ | ⟨rfl, _⟩ | ⟨h, _⟩)
    · exact ((C1.out.trans C2.out).trans C3.out).size
    · have := ((C1.out.trans C2.out).trans C3.out).size; omega
    · have := (((C1.out.trans C2.out).trans C3.out).trans C4.out).size; omega)
  by_cases hlt : kk < ks.length
  · have hll : kk = l.length := by rw [hl, List.length_take]; omega
    have hlt2 : ((l.length : Nat) : Int) < (ks.length : Int) := by omega
    clear hl
    clear HKK k1 k2
    subst hll
    have hcut : ∀ W : World, (Instr.slice 22 (.slice A3 ks.length c3) none (some (.int .i64 (l.length : Int))) none).run Try.prog W = .ok (.slice A3 l.length c3) W := cut_h (P := Try.prog) 22 9 1 Try.underlying22 (by kernel_rfl) A3 ks.length c3 l.length (by omega)
    clear hg5 hr5 hb5 hc5 EA
    go_wp2_with fail
    refine wp_region_sig 9 (fun w' => Chg NoM w5 w') [.L [0, 1, 2, 3, 4, 5, 6, 7, 8], .N [9, 10, 11, 12, 13, 14]] rfl (fun _ _ d _ _ h => by cases d <;> exact h) (fun _ h => h) (by kernel_rfl) ((Chg.refl _).drew) ?_
    apply sigL (Nat.le_refl _)
    · intro w' hS
      have z0 := blk_cell (hS.blkNo BR.out) 0
      have z1 := blk_cell (hS.blkNo BG.out) 0
      have z2 := blk_cell (hS.blkNo BK.out) 0
      (simp only [wpPl, pickOps, List.filterMap_cons, List.filterMap_nil, List.getElem?_toArray, List.getElem?_cons_zero, List.getElem?_cons_succ]; iterate 9 (go_wp2; refine ⟨trivial, ?_⟩)); rfl
    apply sigN
    simp only [pickOps, List.filterMap_cons, List.filterMap_nil, List.getElem?_toArray, List.getElem?_cons_zero, List.getElem?_cons_succ]
    go_wp2_with fail
    refine (same_texts _ _ _ _ l w5.drew (S5.out.chgNo (Chg.refl w5).drew) (T5.out.chgNo (Chg.refl w5).drew) (by omega)).mono ?_
    rintro e w7 ⟨rfl, hc7⟩
    have C7 := Lib.hid (C5.out.trans (Chg.ofDrew hc7))
    clear hc7
    go_wp2_with fail
    refine (lives_true _).mono ?_
    rintro e w10 ⟨rfl, hc10⟩
    have C10 := Lib.hid (C7.out.trans hc10)
    clear hc10
    go_wp2_with fail
    apply sigEnd
    go_wp2_with fail
    go_ret
    exact ⟨rfl, below_of_chg C10.out⟩
  · have hll : l = ks := by rw [hl, List.take_of_length_le (by omega)]
    clear hl
    subst hll
    have hlt2 : ¬ (kk : Int) < (l.length : Int) := by omega
    have hcut : ∀ W : World, (Instr.slice 22 (.slice A3 l.length c3) none (some (.int .i64 (l.length : Int))) none).run Try.prog W = .ok (.slice A3 l.length c3) W := cut_h (P := Try.prog) 22 9 1 Try.underlying22 (by kernel_rfl) A3 l.length c3 l.length (by omega)
    clear hg5 hr5 hb5 hc5 EA
    go_wp2_with fail
    refine wp_region_sig 9 (fun w' => Chg NoM w5 w') [.L [0, 1, 2, 3, 4, 5, 6, 7, 8], .N [9, 10, 11, 12, 13, 14]] rfl (fun _ _ d _ _ h => by cases d <;> exact h) (fun _ h => h) (by kernel_rfl) ((Chg.refl _).drew) ?_
    apply sigL (Nat.le_refl _)
    · intro w' hS
      have z0 := blk_cell (hS.blkNo BR.out) 0
      have z1 := blk_cell (hS.blkNo BG.out) 0
      have z2 := blk_cell (hS.blkNo BK.out) 0
      (simp only [wpPl, pickOps, List.filterMap_cons, List.filterMap_nil, List.getElem?_toArray, List.getElem?_cons_zero, List.getElem?_cons_succ]; iterate 9 (go_wp2; refine ⟨trivial, ?_⟩)); rfl
    apply sigN
    simp only [pickOps, List.filterMap_cons, List.filterMap_nil, List.getElem?_toArray, List.getElem?_cons_zero, List.getElem?_cons_succ]
    go_wp2_with fail
    refine (same_texts _ _ _ _ l w5.drew (S5.out.chgNo (Chg.refl w5).drew) (T5.out.chgNo (Chg.refl w5).drew) (by omega)).mono ?_
    rintro e w7 ⟨rfl, hc7⟩
    have C7 := Lib.hid (C5.out.trans (Chg.ofDrew hc7))
    clear hc7
    go_wp2_with fail
    refine (lives_true _).mono ?_
    rintro e w10 ⟨rfl, hc10⟩
    have C10 := Lib.hid (C7.out.trans hc10)
    clear hc10
    go_wp2_with fail
    apply sigEnd
    go_wp2_with fail
    go_ret
    exact ⟨rfl, below_of_chg C10.out⟩
end Go.Proofs.Ytpfkgigfkonocaa
