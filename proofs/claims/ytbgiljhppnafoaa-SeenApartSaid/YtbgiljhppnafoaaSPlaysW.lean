/- The walk of SeenPlays. -/
import Derived.Test.YtbgiljhppnafoaaSeenL
import Derived.Test.YtbgiljhppnafoaaOpenB
namespace Go.Proofs.Ytbgiljhppnafoaa
set_option linter.unusedVariables false
set_option linter.unusedSimpArgs false
open Go.RowKit

theorem Try.info37 : (Try.prog.info? 37).map (fun i => (i.zero, i.size, i.bytes)) = some (some (.agg #[.string .empty, .int .i64 0]), 2, 24) := by kernel_rfl
/-- A note as an argument brings it. -/
def NoteR (w : World) (d : ByteArray × Int) (c : List Value) : Prop := c = [.string d.1, .int .i64 d.2] ∧ d.1.size ≤ 9223372036854775807
theorem note_at {w wr : World} {A : Option Addr} {ds : List (ByteArray × Int)} (h : RowsAt NoteR 2 w A ds) (hc : Chg NoM w wr) (k : Nat) (hk : k < ds.length) :
    ∃ b off d, A = some ⟨b, off, none⟩ ∧ wr.cell? ⟨b, off + k * 2, none⟩ = some (.string d.1) ∧ wr.cell? ⟨b, off + k * 2 + 1, none⟩ = some (.int .i64 d.2) ∧ d.1.size ≤ 9223372036854775807 ∧ b < w.heap.size ∧ ds[k]? = some d := by
  obtain ⟨b, off, hA, hall⟩ := h.2.2 (by omega)
  obtain ⟨c, ⟨hcs, h1⟩, _, hcell⟩ := hall k _ (List.getElem?_eq_getElem hk)
  subst hcs
  have c0 := hcell 0 _ rfl
  exact ⟨b, off, ds[k], hA, hc.cellNo c0, hc.cellNo (hcell 1 _ rfl), h1, World.block_lt_of_cell? w _ c0, List.getElem?_eq_getElem hk⟩

theorem St.row {T kt : TypeId} {B sb most : Nat} {w w' : World} {m : Value → List Int} {v : Value} (h : St T kt B w sb most m) (hc : Chg (RowM v 37) w w') (hT : T ≠ 37 := by decide) : St T kt B w' sb most m := by
  obtain ⟨S, h1, h2⟩ := h
  refine ⟨S, h1.chg hc (fun k _ => ⟨fun es c => ?_, fun c f => RowM.ne (by decide)⟩) (fun c f => RowM.ne hT), fun g hg => ⟨(h2 g hg).1, Nat.lt_of_lt_of_le (h2 g hg).2 hc.size⟩⟩
  rintro ⟨_, _, _, h⟩
  cases h
/-- The notes so far, and the memory: alike. -/
def Alike (m : Value → List Int) (n : Nat) (L : List (ByteArray × Int)) : Prop := ∀ s : ByteArray, s.size ≤ 1000 → m (.string s) = refAll s n L
theorem Alike.note {m : Value → List Int} {n : Nat} {L : List (ByteArray × Int)} (h : Alike m n L) {s : ByteArray} {x : Int} (hs : s.size ≤ 1000) (hx : x ∉ m (.string s)) : Alike (mset m (.string s) (noted n (m (.string s)) x)) n (L ++ [(s, x)]) := by
  intro t ht
  rw [refAll_snoc]
  unfold tell
  by_cases e : t = s
  · subst e
    rw [h t ht] at hx
    rw [mset_same, if_pos rfl, if_neg hx, h t ht]
  · rw [mset_ne _ _ _ _ (fun h => e (by injection h)), if_neg (fun h => e h.symm), h t ht]
theorem Alike.same {m : Value → List Int} {n : Nat} {L : List (ByteArray × Int)} (h : Alike m n L) {s : ByteArray} {x : Int} (hs : s.size ≤ 1000) (hx : x ∈ m (.string s)) : Alike m n (L ++ [(s, x)]) := by
  intro t ht
  rw [refAll_snoc]
  unfold tell
  by_cases e : s = t
  · subst e
    rw [h s hs] at hx
    rw [if_pos rfl, if_pos hx, h s hs]
  · rw [if_neg e, h t ht]
theorem Alike.has {m : Value → List Int} {n : Nat} {L : List (ByteArray × Int)} {s : ByteArray} {x : Int} (h : Alike m n (L ++ [(s, x)])) (hs : s.size ≤ 1000) (hn : 1 ≤ n) : x ∈ m (.string s) := by
  rw [h s hs, refAll_snoc]
  unfold tell
  rw [if_pos rfl]
  split
  · assumption
  · unfold noted
    rw [List.drop_append_of_le_length (by omega)]
    simp

set_option maxRecDepth 20000 in
set_option maxHeartbeats 8000000 in
theorem splays_walk (most : Int) (A : Option Addr) (ds : List (ByteArray × Int)) (c : Nat) (w : World) (h1 : -9223372036854775808 ≤ most) (h2 : most ≤ 9223372036854775807) (hds : RowsAt NoteR 2 w A ds) :
    Calls Try.prog 6 #[.int .i64 most, .slice A ds.length c] w fun e w' => e = .returned (.bool true) ∧ Below w.heap.size w w' := by
  have HD := Lib.hid hds
  have dl := hds.1
  clear hds
  have hb := aroundI_bd most 5 (by omega)
  have A0 := Lib.hid (around_any most 5 w h1 h2 (by omega) (by omega))
  obtain ⟨a, ha⟩ : ∃ a : Nat, aroundI most 5 = a := ⟨(aroundI most 5).toNat, by omega⟩
  rw [ha] at hb A0
  clear ha
  obtain ⟨-, a2⟩ := hb
  go_enter Try.func6, Try.ntmps6
  go_wp2_with fail
  refine A0.out.mono ?_
  rintro e w1 ⟨rfl, rfl⟩
  go_wp2_with fail
  obtain ⟨n, hn⟩ : ∃ n : Nat, 1 + (a : Int) = n := ⟨1 + a, by omega⟩
  rw [hn]
  have n1 : 1 ≤ n := by omega
  have n2 : n ≤ 5 := by omega
  clear hn
  refine (St.new_s w w n (by omega) (by omega) (Nat.le_refl _)).mono ?_
  rintro e w1 ⟨sb, rfl, hsb, hs1, hc1⟩
  have S1 := Lib.hid hs1
  have C1 := Lib.hid hc1
  clear hs1 hc1
  go_wp2_with fail
  go_loopw [8, 9] (fun ov i wr => ∃ k : Nat, k ≤ ds.length ∧ k ≤ 24 ∧ i = .int .i64 k ∧ ∃ m L, Hid (Chg NoM w wr) ∧ Hid (St 53 9 w.heap.size wr sb n m) ∧ Hid (Alike m n L) ∧ Hid (L.length = k) ∧ Hid (Row wr w.heap.size 37 2 ov L.length (ncells L))) (fun _ i _ => 24 - (intOf i).toNat)
  case atStart => exact ⟨0, by omega, by omega, rfl, _, [], C1, S1, fun _ _ => rfl, rfl, Row.nil _ _ _ _⟩
  case round =>
    obtain ⟨k, hk1, hk2, rfl, m, L, C, S, AL, HL, OW⟩ := hrel
    obtain ⟨AO, cO, rfl, _, _⟩ := Row.slice OW.out
    by_cases hlt : k < ds.length ∧ k < 24
    · obtain ⟨ha, hb⟩ := hlt
      obtain ⟨b, off, d, hA, e0, e1, hd, hbw, -⟩ := note_at HD.out C.out k ha
      subst hA
      obtain ⟨ps, x⟩ := d
      have i0 : (0 : Int) ≤ (k : Int) := by omega
      have i1 : (k : Int) < (ds.length : Int) := by omega
      go_wp2_with fail
      refine (fewN_any ps x wr hd).mono ?_
      rintro e w2 ⟨rfl, hc2⟩
      obtain ⟨s, hs⟩ : ∃ s, s = fewS ps 2 := ⟨_, rfl⟩
      have hs2 : s.size ≤ 1000 := by rw [hs]; have := fewS_size ps 2; omega
      rw [← hs]
      have SW2 := Lib.hid hc2.size
      have C2 := Lib.hid (C.out.trans (hc2.alloc (.cells #[.string s, .int .i64 x] 37)))
      have S2 := Lib.hid (S.out.chgNo (hc2.alloc (.cells #[.string s, .int .i64 x] 37)))
      have OW2 : Hid (Row (w2.alloc (.cells #[.string s, .int .i64 x] 37)) w.heap.size 37 2 (.slice AO L.length cO) L.length (ncells L)) := Row.chg OW.out (hc2.alloc _) (fun _ _ _ _ _ h => h)
      have bx2 := blk_new w2 (.cells #[.string s, .int .i64 x] 37)
      have BX2 := Lib.hid bx2
      have L24 : L.length ≤ 24 := by have := HL.out; omega
      clear hc2 e0 e1 hs hd
      go_wp2_with fail
      refine (refAll_any w.heap.size AO cO L s n _ OW2.out (by omega) (by omega)).mono ?_
      rintro e w3 ⟨v3, rfl, hr3, hg3, hc3⟩
      rw [← AL.out s hs2] at hr3
      obtain ⟨M, hM⟩ : ∃ M, M = m (.string s) := ⟨_, rfl⟩
      rw [← hM] at hr3
      have HM := Lib.hid hM
      have Ml : M.length ≤ n := by rw [hM, AL.out s hs2]; exact refAll_len _ _ _
      obtain ⟨A3, c3, hv3, _, _⟩ := hr3.slice
      rw [imap_len] at hv3
      subst hv3
      have HR3 := Lib.hid hr3
      have G3 := Lib.hid hg3
      have C3 := Lib.hid hc3
      have CC3 := Lib.hid (C2.out.trans hc3)
      have bx3 := hc3.blkNo BX2.out
      have hK := Lib.hid (key_s hs2)
      have S3 : Hid (StE 53 9 w.heap.size (w2.alloc (.cells #[.string s, .int .i64 x] 37)).heap.size w3 sb n m) := StE.chgNo S2.out hc3
      clear hr3 hg3 hc3 hM bx2
      obtain ⟨E, hE⟩ : ∃ E, E = (w2.alloc (.cells #[.string s, .int .i64 x] 37)).heap.size := ⟨_, rfl⟩
      rw [← hE] at S3 G3
      have E3 : E ≤ w3.heap.size := by rw [hE]; exact C3.out.size
      have HE := Lib.hid hE
      have BX3 := Lib.hid bx3
      have OW3 : Hid (Row w3 w.heap.size 37 2 (.slice AO L.length cO) L.length (ncells L)) := Row.chg OW2.out C3.out (fun _ _ _ _ _ h => h)
      have OWL : Hid (∀ g, (Value.slice AO L.length cO).ownBlock = some g → g < w2.heap.size) := fun g hg => Nat.lt_of_lt_of_le (Row.own_lt OW.out hg) SW2.out
      clear hE bx3
      go_wp2_with fail
      by_cases hx : x ∈ M
      · have hx0 := hx
        refine wp_region_sig 23 (fun w' => Chg (IntE w.heap.size E) w3 w') [.P [0, 1, 3, 6, 7], .L [2, 4, 8], .K 5, .K 9, .P [10, 11, 12, 13, 15, 18, 19], .L [14, 16, 20], .K 17, .K 21, .P [22], .N [23]] rfl (fun _ _ d _ _ h => by cases d <;> exact h) (fun _ h => h) (by kernel_rfl) ((Chg.refl _).drew) ?_
        apply sigP (Nat.le_refl _)
        · intro w'
          (simp only [wpPl, pickOps, List.filterMap_cons, List.filterMap_nil, List.getElem?_toArray, List.getElem?_cons_zero, List.getElem?_cons_succ]; iterate 5 (go_wp2; refine ⟨trivial, ?_⟩)); rfl
        apply sigL (by simp)
        · intro w' hS
          have y0 := blk_cell (hS.block _ _ BX3.out (IntE.ne (by decide))) 0
          have y1 := blk_cell (hS.block _ _ BX3.out (IntE.ne (by decide))) 1
          (simp only [wpPl, pickOps, List.filterMap_cons, List.filterMap_nil, List.getElem?_toArray, List.getElem?_cons_zero, List.getElem?_cons_succ]; iterate 3 (go_wp2; refine ⟨trivial, ?_⟩)); rfl
        apply sigK
        simp only [pickOps, List.filterMap_cons, List.filterMap_nil, List.getElem?_toArray, List.getElem?_cons_zero, List.getElem?_cons_succ]
        go_wp2_with fail
        refine (St.has_yes_s ((StE.chgNo S3.out (Chg.refl w3).drew).st E3) hK.out (by rw [← HM.out]; exact hx)).mono ?_
        rintro e w4 ⟨rfl, hc4⟩
        have C4 := Lib.hid hc4
        clear hc4
        go_wp2_with fail
        refine ⟨(Chg.ofNo ((Chg.refl w3).drew.trans C4.out)), ?_⟩
        apply sigK
        simp only [pickOps, List.filterMap_cons, List.filterMap_nil, List.getElem?_toArray, List.getElem?_cons_zero, List.getElem?_cons_succ]
        go_wp2_with fail
        refine (refHas_yes A3 c3 M x w4 (HR3.out.chgNo ((Chg.refl w3).drew.trans C4.out)) hx).mono ?_
        rintro e w5 ⟨rfl, rfl⟩
        go_wp2_with fail
        refine ⟨(Chg.ofNo ((Chg.refl w3).drew.trans C4.out)), ?_⟩
        apply sigP (by simp)
        · intro w'
          (simp only [wpPl, pickOps, List.filterMap_cons, List.filterMap_nil, List.getElem?_toArray, List.getElem?_cons_zero, List.getElem?_cons_succ]; iterate 7 (go_wp2; refine ⟨trivial, ?_⟩)); rfl
        apply sigL (by simp)
        · intro w' hS
          have y0 := blk_cell (hS.block _ _ BX3.out (IntE.ne (by decide))) 0
          have y1 := blk_cell (hS.block _ _ BX3.out (IntE.ne (by decide))) 1
          (simp only [wpPl, pickOps, List.filterMap_cons, List.filterMap_nil, List.getElem?_toArray, List.getElem?_cons_zero, List.getElem?_cons_succ]; iterate 3 (go_wp2; refine ⟨trivial, ?_⟩)); rfl
        apply sigK
        simp only [pickOps, List.filterMap_cons, List.filterMap_nil, List.getElem?_toArray, List.getElem?_cons_zero, List.getElem?_cons_succ]
        go_wp2_with fail
        refine (St.note_no_s ((StE.chgNo S3.out ((Chg.refl w3).drew.trans C4.out)).st (Nat.le_trans E3 C4.out.size)) hK.out (by rw [← HM.out]; exact hx)).mono ?_
        rintro e w5 ⟨rfl, hc5⟩
        have C5 := Lib.hid (C4.out.trans hc5)
        have X5 : Hid (Chg (IntE w.heap.size E) w3 w5) := Chg.ofNo ((Chg.refl w3).drew.trans C5.out)
        clear hc5
        go_wp2_with fail
        refine ⟨X5.out, ?_⟩
        apply sigK
        simp only [pickOps, List.filterMap_cons, List.filterMap_nil, List.getElem?_toArray, List.getElem?_cons_zero, List.getElem?_cons_succ]
        go_wp2_with fail
        refine (refHas_yes A3 c3 M x w5 (HR3.out.chgNo ((Chg.refl w3).drew.trans C5.out)) hx).mono ?_
        rintro e w6 ⟨rfl, rfl⟩
        have C6 := Lib.hid ((Chg.refl w3).drew.trans C5.out)
        have CW : Hid (Chg NoM w w5) := CC3.out.trans C6.out
        have S5 : Hid (St 53 9 w.heap.size w5 sb n m) := (StE.chgNo S3.out C6.out).st (Nat.le_trans E3 C6.out.size)
        have A5 : Hid (Alike m n (L ++ [(s, x)])) := AL.out.same hs2 (by rw [← HM.out]; exact hx)
        have R5 : Hid (Row w5 w.heap.size 37 2 (.slice AO L.length cO) L.length (ncells L)) := Row.chg OW3.out C6.out (fun _ _ _ _ _ h => h)
        have bx5 := C6.out.blkNo BX3.out
        have B5 := Lib.hid bx5
        clear C4 C5 C6
        obtain ⟨m2, hm2⟩ : ∃ m2, m2 = m := ⟨_, rfl⟩
        rw [← hm2] at S5 A5
        clear hm2
        have bx5_c0 := blk_cell bx5 0; have bx5_f0 := blk_free bx5 0; have bx5_c1 := blk_cell bx5 1; have bx5_f1 := blk_free bx5 1; have H_bx5 := Lib.hid bx5; clear bx5
        go_wp2_with fail
        refine ⟨X5.out, ?_⟩
        apply sigP (by simp)
        · intro w'
          (simp only [wpPl, pickOps, List.filterMap_cons, List.filterMap_nil, List.getElem?_toArray, List.getElem?_cons_zero, List.getElem?_cons_succ]; iterate 1 (go_wp2; refine ⟨trivial, ?_⟩)); rfl
        apply sigN
        simp only [pickOps, List.filterMap_cons, List.filterMap_nil, List.getElem?_toArray, List.getElem?_cons_zero, List.getElem?_cons_succ]
        go_wp2_with fail
        apply sigEnd
        go_wp2_with (refine wpList_append_Row _ rfl (.tmp 71) (.tmp 73) 34 rfl w.heap.size 37 _ 2 24 Try.underlying34 Try.info37 rfl (by omega) (.slice AO L.length cO) L.length (ncells L) rfl ?c0 (some ⟨w5.heap.size, 0, none⟩) 1 1 (ncells [(s, x)]) rfl rfl ?c1 ?c2 ?c3 ?c4 ?c5 ?_)
        case c0 => exact Row.chg R5.out ((Chg.refl (M := NoM) w5).alloc _) (fun _ _ _ _ _ h => h)
        case c1 => exact fun _ => ⟨_, rfl, news_blk (blk_new w5 _)⟩
        case c2 => intro u hu; simp [ncells] at hu; rcases hu with rfl | rfl <;> rfl
        case c3 => omega
        case c4 => omega
        case c5 => exact (CW.out.alloc (.cells #[.string s, .int .i64 x] 37)).size
        intro v6 w6 R6
        have hr6 := R6.row
        rw [← ncells_append] at hr6
        obtain ⟨L2, hL2⟩ : ∃ L2, L2 = L ++ [(s, x)] := ⟨_, rfl⟩
        have hln : L.length + 1 = L2.length := by rw [hL2, List.length_append]; rfl
        rw [← hL2, hln] at hr6
        have HL2 : Hid (L2.length = k + 1) := by have := HL.out; show _ = _; omega
        have A6 := A5.out
        rw [← hL2] at A6
        have HA6 := Lib.hid A6
        have C6 : Hid (Chg NoM w w6) := (CW.out.alloc _).thenAll R6.chg (fun i o h => Row.own_ge R5.out h.own)
        have S6 : Hid (St 53 9 w.heap.size w6 sb n m2) := (S5.out.chgNo ((Chg.refl w5).alloc _)).row R6.chg
        have b6 : w6.heap[w2.heap.size]? = some (.cells #[.string s, .int .i64 x] 37 (0, 0)) := by
          refine R6.chg.block _ _ (blk_alloc B5.out _) (fun h => ?_)
          have := OWL.out _ h.own
          omega
        have R6' := Lib.hid hr6
        obtain ⟨AV, cV, rfl, _, _⟩ := hr6.slice
        have B6 := Lib.hid b6
        have bx6 := b6
        clear hr6 R6 hL2 hln A6 b6
        have L25 : L2.length ≤ 25 := by have := HL2.out; omega
        have bx6_c0 := blk_cell bx6 0; have bx6_f0 := blk_free bx6 0; have bx6_c1 := blk_cell bx6 1; have bx6_f1 := blk_free bx6 1; have H_bx6 := Lib.hid bx6; clear bx6
        go_wp2_with fail
        refine (refAll_any w.heap.size AV cV L2 s n w6 R6'.out (by omega) (by omega)).mono ?_
        rintro e w7 ⟨v7, rfl, hr7, -, hc7⟩
        rw [← HA6.out s hs2] at hr7
        have hM2l : (m2 (.string s)).length ≤ n := by rw [HA6.out s hs2]; exact refAll_len _ _ _
        obtain ⟨M2, hM2⟩ : ∃ M, M = m2 (.string s) := ⟨_, rfl⟩
        rw [← hM2] at hr7 hM2l
        have HM2 := Lib.hid hM2
        obtain ⟨A7, c7, hv7, _, _⟩ := hr7.slice
        rw [imap_len] at hv7
        subst hv7
        have HR7 := Lib.hid hr7
        have S7 := Lib.hid (S6.out.chgNo hc7)
        have C7 := Lib.hid (C6.out.trans hc7)
        have R7 := Lib.hid (Row.chg R6'.out hc7 (fun _ _ _ _ _ h => h))
        have bx7 := hc7.blkNo B6.out
        have HX2 : Hid (x ∈ m2 (.string s)) := A5.out.has hs2 n1
        clear hr7 hc7 hM2 bx6_c0 bx6_c1 bx6_f0 bx6_f1
        have bx7_c0 := blk_cell bx7 0; have bx7_f0 := blk_free bx7 0; have bx7_c1 := blk_cell bx7 1; have bx7_f1 := blk_free bx7 1; have H_bx7 := Lib.hid bx7; clear bx7
        go_wp2_with fail
        refine (S7.out.all_s hK.out (by rw [← HM2.out]; omega)).mono ?_
        rintro e w8 ⟨v8, rfl, hr8, hc8⟩
        rw [← HM2.out] at hr8
        obtain ⟨A8, c8, hv8, _, _⟩ := hr8.slice
        rw [imap_len] at hv8
        subst hv8
        have SM := Lib.hid (same_true A8 A7 c8 c7 M2 w8 hr8 (HR7.out.chgNo hc8) (by omega))
        have S8 := Lib.hid (S7.out.chgNo hc8)
        have C8 := Lib.hid (C7.out.trans hc8)
        have R8 := Lib.hid (Row.chg R7.out hc8 (fun _ _ _ _ _ h => h))
        have bx8 := hc8.blkNo H_bx7.out
        clear hr8 hc8 bx7_c0 bx7_c1 bx7_f0 bx7_f1
        go_wp2_with fail
        refine SM.out.mono ?_
        rintro e w9 ⟨rfl, hc9⟩
        have S9 := Lib.hid (S8.out.chgNo hc9)
        have C9 := Lib.hid (C8.out.trans hc9)
        have R9 := Lib.hid (Row.chg R8.out hc9 (fun _ _ _ _ _ h => h))
        have bx9 := hc9.blkNo bx8
        clear hc9 bx8
        have bx9_c0 := blk_cell bx9 0; have bx9_f0 := blk_free bx9 0; have bx9_c1 := blk_cell bx9 1; have bx9_f1 := blk_free bx9 1; have H_bx9 := Lib.hid bx9; clear bx9
        go_wp2_with fail
        refine (S9.out.len_s hK.out).mono ?_
        rintro e w10 ⟨rfl, rfl⟩
        rw [← HM2.out]
        go_wp2_with fail
        refine (S9.out.has_yes_s hK.out HX2.out).mono ?_
        rintro e w10 ⟨rfl, hc10⟩
        have S10 := Lib.hid (S9.out.chgNo hc10)
        have C10 := Lib.hid (C9.out.trans hc10)
        have R10 := Lib.hid (Row.chg R9.out hc10 (fun _ _ _ _ _ h => h))
        clear hc10
        go_wp2_with fail
        exact ⟨⟨k + 1, by omega, by omega, by go_num, m2, L2, C10, S10, HA6, HL2, R10⟩, by simp [intOf]; omega⟩
      · have hx0 := hx
        refine wp_region_sig 23 (fun w' => Chg (IntE w.heap.size E) w3 w') [.P [0, 1, 3, 6, 7], .L [2, 4, 8], .K 5, .K 9, .P [10, 11, 12, 13, 15, 18, 19], .L [14, 16, 20], .K 17, .K 21, .P [22], .N [23]] rfl (fun _ _ d _ _ h => by cases d <;> exact h) (fun _ h => h) (by kernel_rfl) ((Chg.refl _).drew) ?_
        apply sigP (Nat.le_refl _)
        · intro w'
          (simp only [wpPl, pickOps, List.filterMap_cons, List.filterMap_nil, List.getElem?_toArray, List.getElem?_cons_zero, List.getElem?_cons_succ]; iterate 5 (go_wp2; refine ⟨trivial, ?_⟩)); rfl
        apply sigL (by simp)
        · intro w' hS
          have y0 := blk_cell (hS.block _ _ BX3.out (IntE.ne (by decide))) 0
          have y1 := blk_cell (hS.block _ _ BX3.out (IntE.ne (by decide))) 1
          (simp only [wpPl, pickOps, List.filterMap_cons, List.filterMap_nil, List.getElem?_toArray, List.getElem?_cons_zero, List.getElem?_cons_succ]; iterate 3 (go_wp2; refine ⟨trivial, ?_⟩)); rfl
        apply sigK
        simp only [pickOps, List.filterMap_cons, List.filterMap_nil, List.getElem?_toArray, List.getElem?_cons_zero, List.getElem?_cons_succ]
        go_wp2_with fail
        refine (St.has_no_s ((StE.chgNo S3.out (Chg.refl w3).drew).st E3) hK.out (by rw [← HM.out]; exact hx)).mono ?_
        rintro e w4 ⟨rfl, hc4⟩
        have C4 := Lib.hid hc4
        clear hc4
        go_wp2_with fail
        refine ⟨(Chg.ofNo ((Chg.refl w3).drew.trans C4.out)), ?_⟩
        apply sigK
        simp only [pickOps, List.filterMap_cons, List.filterMap_nil, List.getElem?_toArray, List.getElem?_cons_zero, List.getElem?_cons_succ]
        go_wp2_with fail
        refine (refHas_no A3 c3 M x w4 (HR3.out.chgNo ((Chg.refl w3).drew.trans C4.out)) hx).mono ?_
        rintro e w5 ⟨rfl, rfl⟩
        go_wp2_with fail
        refine ⟨(Chg.ofNo ((Chg.refl w3).drew.trans C4.out)), ?_⟩
        apply sigP (by simp)
        · intro w'
          (simp only [wpPl, pickOps, List.filterMap_cons, List.filterMap_nil, List.getElem?_toArray, List.getElem?_cons_zero, List.getElem?_cons_succ]; iterate 7 (go_wp2; refine ⟨trivial, ?_⟩)); rfl
        apply sigL (by simp)
        · intro w' hS
          have y0 := blk_cell (hS.block _ _ BX3.out (IntE.ne (by decide))) 0
          have y1 := blk_cell (hS.block _ _ BX3.out (IntE.ne (by decide))) 1
          (simp only [wpPl, pickOps, List.filterMap_cons, List.filterMap_nil, List.getElem?_toArray, List.getElem?_cons_zero, List.getElem?_cons_succ]; iterate 3 (go_wp2; refine ⟨trivial, ?_⟩)); rfl
        apply sigK
        simp only [pickOps, List.filterMap_cons, List.filterMap_nil, List.getElem?_toArray, List.getElem?_cons_zero, List.getElem?_cons_succ]
        go_wp2_with fail
        have C4w := Lib.hid ((Chg.refl w3).drew.trans C4.out)
        refine (StE.note_yes_s (StE.chgNo S3.out C4w.out) (Nat.le_trans (CC3.out.trans C4w.out).size (Nat.le_refl _)) (Nat.le_trans E3 C4w.out.size) hK.out (by rw [← HM.out]; exact hx) (by rw [← HM.out]; omega) (by omega)).mono ?_
        rintro e w5 ⟨rfl, hs5, hc5⟩
        have X5 : Hid (Chg (IntE w.heap.size E) w3 w5) := (Chg.ofNo C4w.out).trans hc5
        have S5 := Lib.hid hs5
        have HR5 : Hid (RowO w5 3 (.slice A3 M.length c3) (imap M)) := (HR3.out.chgNo C4w.out).chg hc5 (fun g c f hg h => by have := G3.out g hg; have := h.2.1; omega)
        have CW : Hid (Chg NoM w w5) := (CC3.out.trans C4w.out).thenAll hc5 (fun i o h => h.1)
        have R5 : Hid (Row w5 w.heap.size 37 2 (.slice AO L.length cO) L.length (ncells L)) := Row.chg (Row.chg OW3.out C4w.out (fun _ _ _ _ _ h => h)) hc5 (fun _ _ _ _ _ => IntE.ne (by decide))
        have bx5 := hc5.block _ _ (C4w.out.blkNo BX3.out) (IntE.ne (by decide))
        have B5 := Lib.hid bx5
        have A5 : Hid (Alike (mset m (.string s) (noted n (m (.string s)) x)) n (L ++ [(s, x)])) := AL.out.note hs2 (by rw [← HM.out]; exact hx)
        obtain ⟨m2, hm2⟩ : ∃ m2, m2 = mset m (.string s) (noted n (m (.string s)) x) := ⟨_, rfl⟩
        rw [← hm2] at S5 A5
        clear hs5 hc5 C4 C4w hm2
        go_wp2_with fail
        refine ⟨X5.out, ?_⟩
        apply sigK
        simp only [pickOps, List.filterMap_cons, List.filterMap_nil, List.getElem?_toArray, List.getElem?_cons_zero, List.getElem?_cons_succ]
        go_wp2_with fail
        refine (refHas_no A3 c3 M x w5 HR5.out hx).mono ?_
        rintro e w6 ⟨rfl, rfl⟩
        have bx5_c0 := blk_cell bx5 0; have bx5_f0 := blk_free bx5 0; have bx5_c1 := blk_cell bx5 1; have bx5_f1 := blk_free bx5 1; have H_bx5 := Lib.hid bx5; clear bx5
        go_wp2_with fail
        refine ⟨X5.out, ?_⟩
        apply sigP (by simp)
        · intro w'
          (simp only [wpPl, pickOps, List.filterMap_cons, List.filterMap_nil, List.getElem?_toArray, List.getElem?_cons_zero, List.getElem?_cons_succ]; iterate 1 (go_wp2; refine ⟨trivial, ?_⟩)); rfl
        apply sigN
        simp only [pickOps, List.filterMap_cons, List.filterMap_nil, List.getElem?_toArray, List.getElem?_cons_zero, List.getElem?_cons_succ]
        go_wp2_with fail
        apply sigEnd
        go_wp2_with (refine wpList_append_Row _ rfl (.tmp 71) (.tmp 73) 34 rfl w.heap.size 37 _ 2 24 Try.underlying34 Try.info37 rfl (by omega) (.slice AO L.length cO) L.length (ncells L) rfl ?c0 (some ⟨w5.heap.size, 0, none⟩) 1 1 (ncells [(s, x)]) rfl rfl ?c1 ?c2 ?c3 ?c4 ?c5 ?_)
        case c0 => exact Row.chg R5.out ((Chg.refl (M := NoM) w5).alloc _) (fun _ _ _ _ _ h => h)
        case c1 => exact fun _ => ⟨_, rfl, news_blk (blk_new w5 _)⟩
        case c2 => intro u hu; simp [ncells] at hu; rcases hu with rfl | rfl <;> rfl
        case c3 => omega
        case c4 => omega
        case c5 => exact (CW.out.alloc (.cells #[.string s, .int .i64 x] 37)).size
        intro v6 w6 R6
        have hr6 := R6.row
        rw [← ncells_append] at hr6
        obtain ⟨L2, hL2⟩ : ∃ L2, L2 = L ++ [(s, x)] := ⟨_, rfl⟩
        have hln : L.length + 1 = L2.length := by rw [hL2, List.length_append]; rfl
        rw [← hL2, hln] at hr6
        have HL2 : Hid (L2.length = k + 1) := by have := HL.out; show _ = _; omega
        have A6 := A5.out
        rw [← hL2] at A6
        have HA6 := Lib.hid A6
        have C6 : Hid (Chg NoM w w6) := (CW.out.alloc _).thenAll R6.chg (fun i o h => Row.own_ge R5.out h.own)
        have S6 : Hid (St 53 9 w.heap.size w6 sb n m2) := (S5.out.chgNo ((Chg.refl w5).alloc _)).row R6.chg
        have b6 : w6.heap[w2.heap.size]? = some (.cells #[.string s, .int .i64 x] 37 (0, 0)) := by
          refine R6.chg.block _ _ (blk_alloc B5.out _) (fun h => ?_)
          have := OWL.out _ h.own
          omega
        have R6' := Lib.hid hr6
        obtain ⟨AV, cV, rfl, _, _⟩ := hr6.slice
        have B6 := Lib.hid b6
        have bx6 := b6
        clear hr6 R6 hL2 hln A6 b6
        have L25 : L2.length ≤ 25 := by have := HL2.out; omega
        have bx6_c0 := blk_cell bx6 0; have bx6_f0 := blk_free bx6 0; have bx6_c1 := blk_cell bx6 1; have bx6_f1 := blk_free bx6 1; have H_bx6 := Lib.hid bx6; clear bx6
        go_wp2_with fail
        refine (refAll_any w.heap.size AV cV L2 s n w6 R6'.out (by omega) (by omega)).mono ?_
        rintro e w7 ⟨v7, rfl, hr7, -, hc7⟩
        rw [← HA6.out s hs2] at hr7
        have hM2l : (m2 (.string s)).length ≤ n := by rw [HA6.out s hs2]; exact refAll_len _ _ _
        obtain ⟨M2, hM2⟩ : ∃ M, M = m2 (.string s) := ⟨_, rfl⟩
        rw [← hM2] at hr7 hM2l
        have HM2 := Lib.hid hM2
        obtain ⟨A7, c7, hv7, _, _⟩ := hr7.slice
        rw [imap_len] at hv7
        subst hv7
        have HR7 := Lib.hid hr7
        have S7 := Lib.hid (S6.out.chgNo hc7)
        have C7 := Lib.hid (C6.out.trans hc7)
        have R7 := Lib.hid (Row.chg R6'.out hc7 (fun _ _ _ _ _ h => h))
        have bx7 := hc7.blkNo B6.out
        have HX2 : Hid (x ∈ m2 (.string s)) := A5.out.has hs2 n1
        clear hr7 hc7 hM2 bx6_c0 bx6_c1 bx6_f0 bx6_f1
        have bx7_c0 := blk_cell bx7 0; have bx7_f0 := blk_free bx7 0; have bx7_c1 := blk_cell bx7 1; have bx7_f1 := blk_free bx7 1; have H_bx7 := Lib.hid bx7; clear bx7
        go_wp2_with fail
        refine (S7.out.all_s hK.out (by rw [← HM2.out]; omega)).mono ?_
        rintro e w8 ⟨v8, rfl, hr8, hc8⟩
        rw [← HM2.out] at hr8
        obtain ⟨A8, c8, hv8, _, _⟩ := hr8.slice
        rw [imap_len] at hv8
        subst hv8
        have SM := Lib.hid (same_true A8 A7 c8 c7 M2 w8 hr8 (HR7.out.chgNo hc8) (by omega))
        have S8 := Lib.hid (S7.out.chgNo hc8)
        have C8 := Lib.hid (C7.out.trans hc8)
        have R8 := Lib.hid (Row.chg R7.out hc8 (fun _ _ _ _ _ h => h))
        have bx8 := hc8.blkNo H_bx7.out
        clear hr8 hc8 bx7_c0 bx7_c1 bx7_f0 bx7_f1
        go_wp2_with fail
        refine SM.out.mono ?_
        rintro e w9 ⟨rfl, hc9⟩
        have S9 := Lib.hid (S8.out.chgNo hc9)
        have C9 := Lib.hid (C8.out.trans hc9)
        have R9 := Lib.hid (Row.chg R8.out hc9 (fun _ _ _ _ _ h => h))
        have bx9 := hc9.blkNo bx8
        clear hc9 bx8
        have bx9_c0 := blk_cell bx9 0; have bx9_f0 := blk_free bx9 0; have bx9_c1 := blk_cell bx9 1; have bx9_f1 := blk_free bx9 1; have H_bx9 := Lib.hid bx9; clear bx9
        go_wp2_with fail
        refine (S9.out.len_s hK.out).mono ?_
        rintro e w10 ⟨rfl, rfl⟩
        rw [← HM2.out]
        go_wp2_with fail
        refine (S9.out.has_yes_s hK.out HX2.out).mono ?_
        rintro e w10 ⟨rfl, hc10⟩
        have S10 := Lib.hid (S9.out.chgNo hc10)
        have C10 := Lib.hid (C9.out.trans hc10)
        have R10 := Lib.hid (Row.chg R9.out hc10 (fun _ _ _ _ _ h => h))
        clear hc10
        go_wp2_with fail
        exact ⟨⟨k + 1, by omega, by omega, by go_num, m2, L2, C10, S10, HA6, HL2, R10⟩, by simp [intOf]; omega⟩
    · have hex : (¬ k < ds.length) ∨ (k < ds.length ∧ ¬ k < 24) := by omega
      rcases hex with hx | ⟨hx1, hx2⟩
      all_goals
        go_wp2_with fail
        refine (lives_true _).mono ?_
        rintro e w5 ⟨rfl, hc5⟩
        go_wp2_with fail
        go_ret
        exact ⟨rfl, below_of_chg (C.out.trans hc5)⟩
end Go.Proofs.Ytbgiljhppnafoaa
