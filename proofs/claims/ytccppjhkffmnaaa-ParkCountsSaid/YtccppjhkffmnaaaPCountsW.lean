/- The walk of ParkCounts. -/
import Derived.Test.YtccppjhkffmnaaaTakeP
import Derived.Test.YtccppjhkffmnaaaTwiceW
namespace Go.Proofs.Ytccppjhkffmnaaa
set_option linter.unusedVariables false
set_option linter.unusedSimpArgs false
open Go.RowKit
theorem putL_cnt (most : Int) (l : List Edu) (e : Edu) : (putL most l e).length + (if putG most l e = true then 1 else 0) = l.length + (if e ∈ l then 0 else 1) := by
  unfold putL putG
  by_cases h : e ∈ l
  · simp [h]
  · by_cases h2 : (l.length : Int) < most <;> simp [h, h2]
theorem filt_none (l : List Edu) (r ev : ByteArray) : (l.filter (fun e => !isE r ev e)).filter (isE r ev) = [] := by
  rw [List.filter_filter, List.filter_eq_nil_iff]
  intro a _
  cases isE r ev a <;> simp
theorem filt_same (l : List Edu) (r ev : ByteArray) : (l.filter (fun e => !isE r ev e)).filter (fun e => !isE r ev e) = l.filter (fun e => !isE r ev e) := by
  rw [List.filter_filter]
  congr 1
  funext a
  simp
theorem filt_cnt (l : List Edu) (r ev : ByteArray) : (l.filter (isE r ev)).length + (l.filter (fun e => !isE r ev e)).length = l.length := by
  induction l with
  | nil => rfl
  | cons a r' ih => by_cases h : isE r ev a = true <;> simp [List.filter_cons, h] at ih ⊢ <;> omega
set_option maxRecDepth 20000 in
set_option maxHeartbeats 8000000 in
theorem counts_walk (most : Int) (A : Option Addr) (ds : List Edu) (c : Nat) (B : Option Addr) (ms : List Edu) (cm : Nat) (w : World) (h1 : -9223372036854775808 ≤ most) (h2 : most ≤ 9223372036854775807) (hds : RowsAt EduR 11 w A ds) (hms : RowsAt EduR 11 w B ms) (hlen : ds.length ≤ 9223372036854775807) (hlen2 : ms.length ≤ 9223372036854775807) :
    Calls Try.prog 7 #[.int .i64 most, .slice A ds.length c, .slice B ms.length cm] w fun e w' => e = .returned (.bool true) ∧ Below w.heap.size w w' := by
  have HD := Lib.hid hds
  have HMS := Lib.hid hms
  have hg := guard32
  have hb := aroundI_bd most 6 (by omega)
  have A0 := Lib.hid (around_any most 6 w h1 h2 (by omega) (by omega))
  obtain ⟨u, hu⟩ : ∃ x, x = aroundI most 6 := ⟨_, rfl⟩
  rw [← hu] at hb A0
  obtain ⟨hb1, hb2⟩ := hb
  clear hu hds hms h1 h2
  go_enter Try.func7, Try.ntmps7
  go_wp2_with fail
  refine A0.out.mono ?_
  rintro e w' ⟨rfl, rfl⟩
  go_wp2_with fail
  obtain ⟨n, hn⟩ : ∃ n, n = 1 + u := ⟨_, rfl⟩
  try rw [← hn]
  have hn1 : 1 ≤ n := by omega
  have hn2 : n ≤ 6 := by omega
  refine (new_yes n _ (by omega) (by omega)).mono ?_
  rintro e w1 ⟨rfl, hp, hs, hc⟩
  have C1 := Lib.hid hc
  have P1 := Lib.hid hp
  clear hp hs hc hb1 hb2 hn
  go_wp2_with fail
  go_loopw [10, 11, 12] (fun put gone i wr => ∃ (k : Nat) (l : List Edu) (lost : Int) (v : Value) (pz : Int), k ≤ ds.length ∧ k ≤ 16 ∧ i = .int .i64 k ∧ put = .int .i64 pz ∧ gone = .int .i64 lost ∧ Hid (ParkAt wr w.heap.size w.heap.size n l lost v) ∧ Hid (pz = l.length + lost) ∧ 0 ≤ pz ∧ pz ≤ 100 ∧ (l.length : Int) ≤ n ∧ 0 ≤ lost ∧ lost ≤ k ∧ Hid (Chg NoM w wr)) (fun _ _ i _ => ds.length - (intOf i).toNat)
  case atStart => exact ⟨0, [], 0, _, 0, by omega, by omega, rfl, rfl, rfl, P1, rfl, by omega, by omega, by simp; omega, by omega, by omega, C1⟩
  case round =>
    obtain ⟨k, l, lost, v, pz, hk, hk16, rfl, rfl, rfl, P, PZ, pz0, pz1, hln, hl0, hlk, C⟩ := hrel
    by_cases hlt : k < ds.length
    · by_cases h16 : k < 16
      · have i0 : (0 : Int) ≤ (k : Int) := by omega
        have i1 : (k : Int) < (ds.length : Int) := by omega
        have i2 : (k : Int) < 16 := by omega
        obtain ⟨b, off, d, rfl, hc0, hbd, hbw, hd⟩ := edu_at HD.out C.out k hlt
        have HC0 := Lib.hid hc0
        have WB : Hid (∀ V, Calls Try.prog 12 #[d.agg] V fun en w' => ∃ f : Edu, en = .returned f.agg ∧ Chg NoM V w') := fun V => waits_b d V hbd
        unfold Edu.agg at WB
        clear hc0 hbd hd
        go_wp2_with fail
        refine (all_any w.heap.size w.heap.size n lost l v wr P.out (by omega)).mono ?_
        rintro en w2 ⟨va, rfl, hr2, hc2⟩
        obtain ⟨Aa, ca, rfl⟩ := ERow.slice hr2
        have R2 := Lib.hid hr2
        have C2 := Lib.hid (C.out.trans hc2)
        have P2 := Lib.hid (P.out.chgNo hc2)
        have hc : ∀ j, j < 11 → w2.cell? ⟨b, off + k * 11 + j, none⟩ = d.cells[j]? := fun j hj => by
          have h := HC0.out j hj
          have hj' : j < d.cells.length := by simp [Edu.cells]; omega
          rw [List.getElem?_eq_getElem hj'] at h ⊢
          exact hc2.cellNo h
        have x_0 := hc 0 (by omega)
        have x_1 := hc 1 (by omega)
        have x_2 := hc 2 (by omega)
        have x_3 := hc 3 (by omega)
        have x_4 := hc 4 (by omega)
        have x_5 := hc 5 (by omega)
        have x_6 := hc 6 (by omega)
        have x_7 := hc 7 (by omega)
        have x_8 := hc 8 (by omega)
        have x_9 := hc 9 (by omega)
        have x_10 := hc 10 (by omega)
        simp only [Edu.cells, List.getElem?_cons_zero, List.getElem?_cons_succ, List.getElem?_toArray, Nat.add_zero] at x_0 x_1 x_2 x_3 x_4 x_5 x_6 x_7 x_8 x_9 x_10
        clear hc hc2 hr2
        go_wp2_with fail
        refine (WB.out _).mono ?_
        rintro en w3 ⟨fe, rfl, hc3⟩
        clear x_0 x_1 x_2 x_3 x_4 x_5 x_6 x_7 x_8 x_9 x_10 WB
        obtain ⟨wx, hwx⟩ : ∃ wx : World, wx = w3 := ⟨_, rfl⟩
        rw [← hwx] at hc3 ⊢
        clear hwx
        have CX := Lib.hid ((C2.out.trans hc3).alloc (.cells fe.arr 32))
        have PX := Lib.hid ((P2.out.chgNo hc3).chgNo ((Chg.refl wx).alloc (.cells fe.arr 32)))
        have RX := Lib.hid ((R2.out.chgNo hc3).chgNo ((Chg.refl wx).alloc (.cells fe.arr 32)))
        have BE := Lib.hid (blk_new wx (.cells fe.arr 32))
        clear hc3
        go_wp2_with fail
        go_loopw [15, 16] (fun hs j wr => ∃ (t : Nat) (bb : Bool), t ≤ l.length ∧ hs = .bool bb ∧ j = .int .i64 t ∧ Hid (bb = true ↔ fe ∈ l.take t) ∧ Hid (Chg NoM (wx.alloc (.cells fe.arr 32)) wr)) (fun _ j _ => l.length - (intOf j).toNat)
        case atStart => exact ⟨0, false, by omega, rfl, rfl, by simp [Hid], Chg.refl _⟩
        case round =>
          obtain ⟨t, bb, ht, rfl, rfl, HI, E⟩ := hrel
          by_cases htl : t < l.length
          · obtain ⟨p, hp⟩ : ∃ p, l[t]? = some p := ⟨_, List.getElem?_eq_getElem htl⟩
            obtain ⟨g, rfl, _, _, hcp⟩ := (RX.out.chgNo E.out).at hp
            have htk : Hid (fe ∈ l.take (t + 1) ↔ fe ∈ l.take t ∨ fe = p) := by
              show _ ↔ _
              rw [List.take_succ_eq_append_getElem htl, (List.getElem?_eq_some_iff.1 hp).2]
              simp
            have x_0 := hcp 0 (by omega)
            have x_1 := hcp 1 (by omega)
            have x_2 := hcp 2 (by omega)
            have x_3 := hcp 3 (by omega)
            have x_4 := hcp 4 (by omega)
            have x_5 := hcp 5 (by omega)
            have x_6 := hcp 6 (by omega)
            have x_7 := hcp 7 (by omega)
            have x_8 := hcp 8 (by omega)
            have x_9 := hcp 9 (by omega)
            have x_10 := hcp 10 (by omega)
            simp only [Edu.cells, List.getElem?_cons_zero, List.getElem?_cons_succ, List.getElem?_toArray, Nat.add_zero] at x_0 x_1 x_2 x_3 x_4 x_5 x_6 x_7 x_8 x_9 x_10
            have hb : ∀ j, j < 11 → wr.cell? ⟨wx.heap.size, j, none⟩ = fe.arr[j]? := fun j _ => blk_cell (E.out.blkNo BE.out) j
            have y_0 := hb 0 (by omega)
            have y_1 := hb 1 (by omega)
            have y_2 := hb 2 (by omega)
            have y_3 := hb 3 (by omega)
            have y_4 := hb 4 (by omega)
            have y_5 := hb 5 (by omega)
            have y_6 := hb 6 (by omega)
            have y_7 := hb 7 (by omega)
            have y_8 := hb 8 (by omega)
            have y_9 := hb 9 (by omega)
            have y_10 := hb 10 (by omega)
            simp only [Edu.cells, List.getElem?_cons_zero, List.getElem?_cons_succ, List.getElem?_toArray, Nat.add_zero] at y_0 y_1 y_2 y_3 y_4 y_5 y_6 y_7 y_8 y_9 y_10
            have hq := eqlE p fe
            have j0 : (0 : Int) ≤ (t : Int) := by omega
            have j1 : (t : Int) < (l.length : Int) := by omega
            unfold Edu.agg at hq
            clear hb hcp hp
            cases bb
            · by_cases hpe : p = fe
              · rw [decide_eq_true hpe] at hq
                have NI : Hid (true = true ↔ fe ∈ l.take (t + 1)) := by show _ ↔ _; rw [htk.out]; simp [hpe]
                clear hpe
                go_wp2_with fail
                go_quiet (fail)
                go_wp2_with fail
                exact ⟨⟨t + 1, true, by omega, rfl, by go_num, (by show _ ↔ _; have := NI.out; simpa using this), E.out.drewN _⟩, by simp [intOf]; omega⟩
              · rw [decide_eq_false hpe] at hq
                have NI : Hid (false = true ↔ fe ∈ l.take (t + 1)) := by show _ ↔ _; rw [htk.out, ← HI.out]; simp; exact fun h => hpe h.symm
                clear hpe
                go_wp2_with fail
                go_quiet (fail)
                go_wp2_with fail
                exact ⟨⟨t + 1, false, by omega, rfl, by go_num, (by show _ ↔ _; have := NI.out; simpa using this), E.out.drewN _⟩, by simp [intOf]; omega⟩
            · have NI : Hid (true = true ↔ fe ∈ l.take (t + 1)) := by show _ ↔ _; rw [htk.out, ← HI.out]; simp
              go_wp2_with fail
              go_quiet (fail)
              go_wp2_with fail
              exact ⟨⟨t + 1, true, by omega, rfl, by go_num, (by show _ ↔ _; have := NI.out; simpa using this), E.out.drewN _⟩, by simp [intOf]; omega⟩
          · obtain rfl : t = l.length := by omega
            rw [List.take_length] at HI
            have hb : ∀ j, j < 11 → wr.cell? ⟨wx.heap.size, j, none⟩ = fe.arr[j]? := fun j _ => blk_cell (E.out.blkNo BE.out) j
            have z_0 := hb 0 (by omega)
            have z_1 := hb 1 (by omega)
            have z_2 := hb 2 (by omega)
            have z_3 := hb 3 (by omega)
            have z_4 := hb 4 (by omega)
            have z_5 := hb 5 (by omega)
            have z_6 := hb 6 (by omega)
            have z_7 := hb 7 (by omega)
            have z_8 := hb 8 (by omega)
            have z_9 := hb 9 (by omega)
            have z_10 := hb 10 (by omega)
            simp only [Edu.cells, List.getElem?_cons_zero, List.getElem?_cons_succ, List.getElem?_toArray, Nat.add_zero] at z_0 z_1 z_2 z_3 z_4 z_5 z_6 z_7 z_8 z_9 z_10
            clear hb
            have PE := Lib.hid (PX.out.chgNo E.out)
            have pl := putL_len (e := fe) hln
            have PQ := Lib.hid (put_eq w.heap.size w.heap.size n lost l v fe wr PE.out hln (by omega) hl0 (by omega))
            have cnt := putL_cnt n l fe
            have e4 : putC n lost l fe = if putG n l fe = true then lost + 1 else lost := rfl
            rw [e4] at PQ
            clear e4
            obtain ⟨G, hG⟩ : ∃ G, G = putG n l fe := ⟨_, rfl⟩
            rw [← hG] at PQ cnt
            obtain ⟨Z, hZ⟩ : ∃ Z, Z = putZ n l fe := ⟨_, rfl⟩
            rw [← hZ] at PQ
            unfold Edu.agg at PQ
            clear hG hZ
            cases bb
            · have hm : fe ∉ l := fun h => by have := HI.out.2 h; simp at this
              rw [if_neg hm] at cnt
              cases G
              · simp only [Bool.false_eq_true, if_false, Nat.add_zero] at PQ cnt
                have CNT := Lib.hid cnt
                clear cnt hm
                go_wp2_with fail
                refine PQ.out.mono ?_
                rintro en w6 ⟨rfl, v6, hp6, ho6, hc6⟩
                have C6 : Hid (Chg NoM w w6) := (CX.out.trans E.out).thenAll hc6 (fun i o h => by exact ParkX.new PE.out i o h)
                have P6 := Lib.hid hp6
                clear hp6 ho6 hc6 z_0 z_1 z_2 z_3 z_4 z_5 z_6 z_7 z_8 z_9 z_10
                go_wp2_with fail
                exact ⟨⟨k + 1, putL n l fe, lost, v6, (pz + 1), by omega, by omega, by go_num, rfl, rfl, P6.out.chgNo ((Chg.refl w6).alloc _), by show _ = _; have := PZ.out; have := CNT.out; omega, by omega, by have := PZ.out; have := CNT.out; omega, pl, by omega, by omega, C6.out.alloc _⟩, by simp [intOf]; omega⟩
              · simp only [if_true] at PQ cnt
                have CNT := Lib.hid cnt
                clear cnt hm
                go_wp2_with fail
                refine PQ.out.mono ?_
                rintro en w6 ⟨rfl, v6, hp6, ho6, hc6⟩
                have C6 : Hid (Chg NoM w w6) := (CX.out.trans E.out).thenAll hc6 (fun i o h => by exact ParkX.new PE.out i o h)
                have P6 := Lib.hid hp6
                clear hp6 ho6 hc6 z_0 z_1 z_2 z_3 z_4 z_5 z_6 z_7 z_8 z_9 z_10
                go_wp2_with fail
                exact ⟨⟨k + 1, putL n l fe, (lost + 1), v6, (pz + 1), by omega, by omega, by go_num, rfl, rfl, P6.out.chgNo ((Chg.refl w6).alloc _), by show _ = _; have := PZ.out; have := CNT.out; omega, by omega, by have := PZ.out; have := CNT.out; omega, pl, by omega, by omega, C6.out.alloc _⟩, by simp [intOf]; omega⟩
            · have hm : fe ∈ l := HI.out.1 rfl
              rw [if_pos hm] at cnt
              cases G
              · simp only [Bool.false_eq_true, if_false, Nat.add_zero] at PQ cnt
                have CNT := Lib.hid cnt
                clear cnt hm
                go_wp2_with fail
                refine PQ.out.mono ?_
                rintro en w6 ⟨rfl, v6, hp6, ho6, hc6⟩
                have C6 : Hid (Chg NoM w w6) := (CX.out.trans E.out).thenAll hc6 (fun i o h => by exact ParkX.new PE.out i o h)
                have P6 := Lib.hid hp6
                clear hp6 ho6 hc6 z_0 z_1 z_2 z_3 z_4 z_5 z_6 z_7 z_8 z_9 z_10
                go_wp2_with fail
                exact ⟨⟨k + 1, putL n l fe, lost, v6, pz, by omega, by omega, by go_num, rfl, rfl, P6.out.chgNo ((Chg.refl w6).alloc _), by show _ = _; have := PZ.out; have := CNT.out; omega, by omega, by have := PZ.out; have := CNT.out; omega, pl, by omega, by omega, C6.out.alloc _⟩, by simp [intOf]; omega⟩
              · simp only [if_true] at PQ cnt
                have CNT := Lib.hid cnt
                clear cnt hm
                go_wp2_with fail
                refine PQ.out.mono ?_
                rintro en w6 ⟨rfl, v6, hp6, ho6, hc6⟩
                have C6 : Hid (Chg NoM w w6) := (CX.out.trans E.out).thenAll hc6 (fun i o h => by exact ParkX.new PE.out i o h)
                have P6 := Lib.hid hp6
                clear hp6 ho6 hc6 z_0 z_1 z_2 z_3 z_4 z_5 z_6 z_7 z_8 z_9 z_10
                go_wp2_with fail
                exact ⟨⟨k + 1, putL n l fe, (lost + 1), v6, pz, by omega, by omega, by go_num, rfl, rfl, P6.out.chgNo ((Chg.refl w6).alloc _), by show _ = _; have := PZ.out; have := CNT.out; omega, by omega, by have := PZ.out; have := CNT.out; omega, pl, by omega, by omega, C6.out.alloc _⟩, by simp [intOf]; omega⟩
      · have hl16 : lost ≤ 16 := by omega
        obtain rfl : k = 16 := by omega
        clear hlk hk16 hk h16
        obtain ⟨wq, hwq⟩ : ∃ wq : World, wq = wr := ⟨_, rfl⟩
        rw [← hwq] at P C ⊢
        clear hwq
        go_wp2_with fail
        go_loopw [19, 20] (fun tk i wr => ∃ (q : Nat) (l' : List Edu) (v' : Value) (tz : Int), q ≤ ms.length ∧ q ≤ 4 ∧ i = .int .i64 q ∧ tk = .int .i64 tz ∧ Hid (ParkAt wr w.heap.size w.heap.size n l' lost v') ∧ Hid ((l'.length : Int) + tz = l.length) ∧ l'.length ≤ l.length ∧ 0 ≤ tz ∧ tz ≤ 100 ∧ Hid (Chg NoM w wr)) (fun _ i _ => ms.length - (intOf i).toNat)
        case atStart => exact ⟨0, l, v, 0, by omega, by omega, rfl, rfl, P, by show _ = _; omega, by omega, by omega, by omega, C⟩
        case round =>
          obtain ⟨q, l', v', tz, hq, hq4, rfl, rfl, P, TZ, hll, tz0, tz1, C⟩ := hrel
          by_cases hqt : q < ms.length
          · by_cases h4 : q < 4
            · obtain ⟨b, off, d, rfl, hc0, hbd, hbw, hd⟩ := edu_at HMS.out C.out q hqt
              have x_0 := hc0 0 (by omega)
              have x_1 := hc0 1 (by omega)
              have x_2 := hc0 2 (by omega)
              have x_3 := hc0 3 (by omega)
              have x_4 := hc0 4 (by omega)
              have x_5 := hc0 5 (by omega)
              have x_6 := hc0 6 (by omega)
              have x_7 := hc0 7 (by omega)
              have x_8 := hc0 8 (by omega)
              have x_9 := hc0 9 (by omega)
              have x_10 := hc0 10 (by omega)
              simp only [Edu.cells, List.getElem?_cons_zero, List.getElem?_cons_succ, List.getElem?_toArray, Nat.add_zero] at x_0 x_1 x_2 x_3 x_4 x_5 x_6 x_7 x_8 x_9 x_10
              have WB : Hid (∀ V, Calls Try.prog 12 #[d.agg] V fun en w' => ∃ f : Edu, en = .returned f.agg ∧ Chg NoM V w') := fun V => waits_b d V hbd
              have i0 : (0 : Int) ≤ (q : Int) := by omega
              have i1 : (q : Int) < (ms.length : Int) := by omega
              have i2 : (q : Int) < 4 := by omega
              unfold Edu.agg at WB
              clear hc0 hbd hd
              go_wp2_with fail
              refine (WB.out _).mono ?_
              rintro en w3 ⟨fe, rfl, hc3⟩
              clear x_0 x_1 x_2 x_3 x_4 x_5 x_6 x_7 x_8 x_9 x_10 WB
              have CX := Lib.hid ((C.out.trans hc3).alloc (.cells fe.arr 32))
              have PX := Lib.hid ((P.out.chgNo hc3).chgNo ((Chg.refl w3).alloc (.cells fe.arr 32)))
              have BE := Lib.hid (blk_new w3 (.cells fe.arr 32))
              have S3 := Lib.hid hc3.size
              clear hc3
              go_wp2_with fail
              refine (take_any w.heap.size w.heap.size n lost l' v' fe.room fe.event _ PX.out (by omega)).mono ?_
              rintro en w4 ⟨va, vb, rfl, hra, hp4, ho4, hc4⟩
              obtain ⟨At, ct, rfl⟩ := hra.slice
              have C4 : Hid (Chg NoM w w4) := CX.out.thenAll hc4 (fun i o h => by exact ParkX.new PX.out i o h)
              have RA := Lib.hid hra
              have P4 := Lib.hid hp4
              have vne : v'.ownBlock ≠ some w3.heap.size := fun h => by have := Row.own_lt (P.out.2.2) h; have := S3.out; omega
              have BE4 := Lib.hid (hc4.block _ _ BE.out (by rintro (⟨_, _, _, h⟩ | h); injection h with _ h; cases h; exact vne h.own))
              have FC := Lib.hid (filt_cnt l' fe.room fe.event)
              obtain ⟨ta, hta⟩ : ∃ ta, ta = l'.filter (isE fe.room fe.event) := ⟨_, rfl⟩
              have ISE : Hid (∀ p ∈ ta, p.room = fe.room ∧ p.event = fe.event) := by
                intro p hp
                rw [hta] at hp
                have := (List.mem_filter.1 hp).2
                simpa [isE] using this
              rw [← hta] at RA FC ⊢
              have lta : ta.length ≤ 100 := by have := FC.out; omega
              have P4F := Lib.hid (show ParkAt w4 w.heap.size w.heap.size n (l'.filter (fun e => !isE fe.room fe.event e)) lost vb from P4.out)
              clear hra hp4 ho4 hc4 vne hta P4
              go_wp2_with fail
              go_loopw [23] (fun i wr => ∃ s : Nat, s ≤ ta.length ∧ i = .int .i64 s ∧ Hid (Chg NoM w4 wr)) (fun i _ => ta.length - (intOf i).toNat)
              case atStart => exact ⟨0, by omega, rfl, Chg.refl w4⟩
              case round =>
                obtain ⟨s, hs, rfl, E⟩ := hrel
                have hb : ∀ j, j < 11 → wr.cell? ⟨w3.heap.size, j, none⟩ = fe.arr[j]? := fun j _ => blk_cell (E.out.blkNo BE4.out) j
                by_cases hst : s < ta.length
                · obtain ⟨p, hp⟩ : ∃ p, ta[s]? = some p := ⟨_, List.getElem?_eq_getElem hst⟩
                  obtain ⟨hp1, hp2⟩ := ISE.out p (List.mem_of_getElem? hp)
                  obtain ⟨g, rfl, _, _, hcp⟩ := (RA.out.chgNo E.out).at hp
                  have x_0 := hcp 0 (by omega)
                  have x_1 := hcp 1 (by omega)
                  have x_2 := hcp 2 (by omega)
                  have x_3 := hcp 3 (by omega)
                  have x_4 := hcp 4 (by omega)
                  have x_5 := hcp 5 (by omega)
                  have x_6 := hcp 6 (by omega)
                  have x_7 := hcp 7 (by omega)
                  have x_8 := hcp 8 (by omega)
                  have x_9 := hcp 9 (by omega)
                  have x_10 := hcp 10 (by omega)
                  simp only [Edu.cells, List.getElem?_cons_zero, List.getElem?_cons_succ, List.getElem?_toArray, Nat.add_zero] at x_0 x_1 x_2 x_3 x_4 x_5 x_6 x_7 x_8 x_9 x_10
                  rw [hp1] at x_1
                  rw [hp2] at x_3
                  have y_0 := hb 0 (by omega)
                  have y_1 := hb 1 (by omega)
                  have y_2 := hb 2 (by omega)
                  have y_3 := hb 3 (by omega)
                  have y_4 := hb 4 (by omega)
                  have y_5 := hb 5 (by omega)
                  have y_6 := hb 6 (by omega)
                  have y_7 := hb 7 (by omega)
                  have y_8 := hb 8 (by omega)
                  have y_9 := hb 9 (by omega)
                  have y_10 := hb 10 (by omega)
                  simp only [Edu.cells, List.getElem?_cons_zero, List.getElem?_cons_succ, List.getElem?_toArray, Nat.add_zero] at y_0 y_1 y_2 y_3 y_4 y_5 y_6 y_7 y_8 y_9 y_10
                  have q1 := toList_eq (a := fe.room) rfl
                  have q2 := toList_eq (a := fe.event) rfl
                  have j0 : (0 : Int) ≤ (s : Int) := by omega
                  have j1 : (s : Int) < (ta.length : Int) := by omega
                  clear hb hcp hp hp1 hp2
                  go_wp2_with fail
                  go_quiet (fail)
                  go_wp2_with fail
                  exact ⟨⟨s + 1, by omega, by go_num, E.out.drewN _⟩, by simp [intOf]; omega⟩
                · skip
                  have y_0 := hb 0 (by omega)
                  have y_1 := hb 1 (by omega)
                  have y_2 := hb 2 (by omega)
                  have y_3 := hb 3 (by omega)
                  have y_4 := hb 4 (by omega)
                  have y_5 := hb 5 (by omega)
                  have y_6 := hb 6 (by omega)
                  have y_7 := hb 7 (by omega)
                  have y_8 := hb 8 (by omega)
                  have y_9 := hb 9 (by omega)
                  have y_10 := hb 10 (by omega)
                  simp only [Edu.cells, List.getElem?_cons_zero, List.getElem?_cons_succ, List.getElem?_toArray, Nat.add_zero] at y_0 y_1 y_2 y_3 y_4 y_5 y_6 y_7 y_8 y_9 y_10
                  clear hb
                  have PE := Lib.hid (P4F.out.chgNo E.out)
                  have TK := Lib.hid (take_any w.heap.size w.heap.size n lost _ vb fe.room fe.event wr PE.out (by have := FC.out; omega))
                  rw [filt_none, filt_same] at TK
                  obtain ⟨lf, hlf⟩ : ∃ lf, lf = l'.filter (fun e => !isE fe.room fe.event e) := ⟨_, rfl⟩
                  rw [← hlf] at TK FC PE
                  clear hlf
                  go_wp2_with fail
                  refine TK.out.mono ?_
                  rintro en w6 ⟨va6, vb6, rfl, hra6, hp6, ho6, hc6⟩
                  obtain ⟨A6, c6, rfl⟩ := hra6.slice
                  have C6 : Hid (Chg NoM w w6) := (C4.out.trans E.out).thenAll hc6 (fun i o h => by exact ParkX.new PE.out i o h)
                  have P6 := Lib.hid hp6
                  clear hra6 hp6 ho6 hc6 TK
                  go_wp2_with fail
                  exact ⟨⟨q + 1, lf, vb6, tz + ta.length, by omega, by omega, by go_num, rfl, P6, by show _ = _; have := FC.out; have := TZ.out; omega, by have := FC.out; omega, by omega, by have := FC.out; have := TZ.out; omega, C6⟩, by simp [intOf]; omega⟩
            · skip
              have PZ' := PZ.out
              have TZ' := TZ.out
              have hz : (l'.length : Int) + tz + lost = pz := by omega
              have hln' : (l'.length : Int) ≤ n := by omega
              clear PZ' TZ'
              go_wp2_with fail
              refine (len_any w.heap.size w.heap.size n lost l' v' wr P.out).mono ?_
              rintro en w8 ⟨rfl, rfl⟩
              go_wp2_with fail
              refine (lost_any w.heap.size w.heap.size n lost l' v' _ P.out).mono ?_
              rintro en w8 ⟨rfl, rfl⟩
              go_wp2_with fail
              refine (len_any w.heap.size w.heap.size n lost l' v' _ P.out).mono ?_
              rintro en w8 ⟨rfl, rfl⟩
              go_wp2_with fail
              refine (lives_true _).mono ?_
              rintro en w9 ⟨rfl, hc9⟩
              have C9 := Lib.hid (C.out.trans hc9)
              clear hc9
              go_wp2_with fail
              go_ret
              exact ⟨rfl, below_of_chg C9.out⟩
          · skip
            have PZ' := PZ.out
            have TZ' := TZ.out
            have hz : (l'.length : Int) + tz + lost = pz := by omega
            have hln' : (l'.length : Int) ≤ n := by omega
            clear PZ' TZ'
            go_wp2_with fail
            refine (len_any w.heap.size w.heap.size n lost l' v' wr P.out).mono ?_
            rintro en w8 ⟨rfl, rfl⟩
            go_wp2_with fail
            refine (lost_any w.heap.size w.heap.size n lost l' v' _ P.out).mono ?_
            rintro en w8 ⟨rfl, rfl⟩
            go_wp2_with fail
            refine (len_any w.heap.size w.heap.size n lost l' v' _ P.out).mono ?_
            rintro en w8 ⟨rfl, rfl⟩
            go_wp2_with fail
            refine (lives_true _).mono ?_
            rintro en w9 ⟨rfl, hc9⟩
            have C9 := Lib.hid (C.out.trans hc9)
            clear hc9
            go_wp2_with fail
            go_ret
            exact ⟨rfl, below_of_chg C9.out⟩
    · have hl16 : lost ≤ 16 := by omega
      obtain ⟨kk, hkk⟩ : ∃ kk : Nat, kk = k := ⟨_, rfl⟩
      have hkd : (kk : Int) = (ds.length : Int) := by omega
      have hnl : ¬ (kk : Int) < (ds.length : Int) := by omega
      rw [← hkk]
      clear hlk hk16 hk hlt hkk hkd
      obtain ⟨wq, hwq⟩ : ∃ wq : World, wq = wr := ⟨_, rfl⟩
      rw [← hwq] at P C ⊢
      clear hwq
      go_wp2_with fail
      go_loopw [19, 20] (fun tk i wr => ∃ (q : Nat) (l' : List Edu) (v' : Value) (tz : Int), q ≤ ms.length ∧ q ≤ 4 ∧ i = .int .i64 q ∧ tk = .int .i64 tz ∧ Hid (ParkAt wr w.heap.size w.heap.size n l' lost v') ∧ Hid ((l'.length : Int) + tz = l.length) ∧ l'.length ≤ l.length ∧ 0 ≤ tz ∧ tz ≤ 100 ∧ Hid (Chg NoM w wr)) (fun _ i _ => ms.length - (intOf i).toNat)
      case atStart => exact ⟨0, l, v, 0, by omega, by omega, rfl, rfl, P, by show _ = _; omega, by omega, by omega, by omega, C⟩
      case round =>
        obtain ⟨q, l', v', tz, hq, hq4, rfl, rfl, P, TZ, hll, tz0, tz1, C⟩ := hrel
        by_cases hqt : q < ms.length
        · by_cases h4 : q < 4
          · obtain ⟨b, off, d, rfl, hc0, hbd, hbw, hd⟩ := edu_at HMS.out C.out q hqt
            have x_0 := hc0 0 (by omega)
            have x_1 := hc0 1 (by omega)
            have x_2 := hc0 2 (by omega)
            have x_3 := hc0 3 (by omega)
            have x_4 := hc0 4 (by omega)
            have x_5 := hc0 5 (by omega)
            have x_6 := hc0 6 (by omega)
            have x_7 := hc0 7 (by omega)
            have x_8 := hc0 8 (by omega)
            have x_9 := hc0 9 (by omega)
            have x_10 := hc0 10 (by omega)
            simp only [Edu.cells, List.getElem?_cons_zero, List.getElem?_cons_succ, List.getElem?_toArray, Nat.add_zero] at x_0 x_1 x_2 x_3 x_4 x_5 x_6 x_7 x_8 x_9 x_10
            have WB : Hid (∀ V, Calls Try.prog 12 #[d.agg] V fun en w' => ∃ f : Edu, en = .returned f.agg ∧ Chg NoM V w') := fun V => waits_b d V hbd
            have i0 : (0 : Int) ≤ (q : Int) := by omega
            have i1 : (q : Int) < (ms.length : Int) := by omega
            have i2 : (q : Int) < 4 := by omega
            unfold Edu.agg at WB
            clear hc0 hbd hd
            go_wp2_with fail
            refine (WB.out _).mono ?_
            rintro en w3 ⟨fe, rfl, hc3⟩
            clear x_0 x_1 x_2 x_3 x_4 x_5 x_6 x_7 x_8 x_9 x_10 WB
            have CX := Lib.hid ((C.out.trans hc3).alloc (.cells fe.arr 32))
            have PX := Lib.hid ((P.out.chgNo hc3).chgNo ((Chg.refl w3).alloc (.cells fe.arr 32)))
            have BE := Lib.hid (blk_new w3 (.cells fe.arr 32))
            have S3 := Lib.hid hc3.size
            clear hc3
            go_wp2_with fail
            refine (take_any w.heap.size w.heap.size n lost l' v' fe.room fe.event _ PX.out (by omega)).mono ?_
            rintro en w4 ⟨va, vb, rfl, hra, hp4, ho4, hc4⟩
            obtain ⟨At, ct, rfl⟩ := hra.slice
            have C4 : Hid (Chg NoM w w4) := CX.out.thenAll hc4 (fun i o h => by exact ParkX.new PX.out i o h)
            have RA := Lib.hid hra
            have P4 := Lib.hid hp4
            have vne : v'.ownBlock ≠ some w3.heap.size := fun h => by have := Row.own_lt (P.out.2.2) h; have := S3.out; omega
            have BE4 := Lib.hid (hc4.block _ _ BE.out (by rintro (⟨_, _, _, h⟩ | h); injection h with _ h; cases h; exact vne h.own))
            have FC := Lib.hid (filt_cnt l' fe.room fe.event)
            obtain ⟨ta, hta⟩ : ∃ ta, ta = l'.filter (isE fe.room fe.event) := ⟨_, rfl⟩
            have ISE : Hid (∀ p ∈ ta, p.room = fe.room ∧ p.event = fe.event) := by
              intro p hp
              rw [hta] at hp
              have := (List.mem_filter.1 hp).2
              simpa [isE] using this
            rw [← hta] at RA FC ⊢
            have lta : ta.length ≤ 100 := by have := FC.out; omega
            have P4F := Lib.hid (show ParkAt w4 w.heap.size w.heap.size n (l'.filter (fun e => !isE fe.room fe.event e)) lost vb from P4.out)
            clear hra hp4 ho4 hc4 vne hta P4
            go_wp2_with fail
            go_loopw [23] (fun i wr => ∃ s : Nat, s ≤ ta.length ∧ i = .int .i64 s ∧ Hid (Chg NoM w4 wr)) (fun i _ => ta.length - (intOf i).toNat)
            case atStart => exact ⟨0, by omega, rfl, Chg.refl w4⟩
            case round =>
              obtain ⟨s, hs, rfl, E⟩ := hrel
              have hb : ∀ j, j < 11 → wr.cell? ⟨w3.heap.size, j, none⟩ = fe.arr[j]? := fun j _ => blk_cell (E.out.blkNo BE4.out) j
              by_cases hst : s < ta.length
              · obtain ⟨p, hp⟩ : ∃ p, ta[s]? = some p := ⟨_, List.getElem?_eq_getElem hst⟩
                obtain ⟨hp1, hp2⟩ := ISE.out p (List.mem_of_getElem? hp)
                obtain ⟨g, rfl, _, _, hcp⟩ := (RA.out.chgNo E.out).at hp
                have x_0 := hcp 0 (by omega)
                have x_1 := hcp 1 (by omega)
                have x_2 := hcp 2 (by omega)
                have x_3 := hcp 3 (by omega)
                have x_4 := hcp 4 (by omega)
                have x_5 := hcp 5 (by omega)
                have x_6 := hcp 6 (by omega)
                have x_7 := hcp 7 (by omega)
                have x_8 := hcp 8 (by omega)
                have x_9 := hcp 9 (by omega)
                have x_10 := hcp 10 (by omega)
                simp only [Edu.cells, List.getElem?_cons_zero, List.getElem?_cons_succ, List.getElem?_toArray, Nat.add_zero] at x_0 x_1 x_2 x_3 x_4 x_5 x_6 x_7 x_8 x_9 x_10
                rw [hp1] at x_1
                rw [hp2] at x_3
                have y_0 := hb 0 (by omega)
                have y_1 := hb 1 (by omega)
                have y_2 := hb 2 (by omega)
                have y_3 := hb 3 (by omega)
                have y_4 := hb 4 (by omega)
                have y_5 := hb 5 (by omega)
                have y_6 := hb 6 (by omega)
                have y_7 := hb 7 (by omega)
                have y_8 := hb 8 (by omega)
                have y_9 := hb 9 (by omega)
                have y_10 := hb 10 (by omega)
                simp only [Edu.cells, List.getElem?_cons_zero, List.getElem?_cons_succ, List.getElem?_toArray, Nat.add_zero] at y_0 y_1 y_2 y_3 y_4 y_5 y_6 y_7 y_8 y_9 y_10
                have q1 := toList_eq (a := fe.room) rfl
                have q2 := toList_eq (a := fe.event) rfl
                have j0 : (0 : Int) ≤ (s : Int) := by omega
                have j1 : (s : Int) < (ta.length : Int) := by omega
                clear hb hcp hp hp1 hp2
                go_wp2_with fail
                go_quiet (fail)
                go_wp2_with fail
                exact ⟨⟨s + 1, by omega, by go_num, E.out.drewN _⟩, by simp [intOf]; omega⟩
              · skip
                have y_0 := hb 0 (by omega)
                have y_1 := hb 1 (by omega)
                have y_2 := hb 2 (by omega)
                have y_3 := hb 3 (by omega)
                have y_4 := hb 4 (by omega)
                have y_5 := hb 5 (by omega)
                have y_6 := hb 6 (by omega)
                have y_7 := hb 7 (by omega)
                have y_8 := hb 8 (by omega)
                have y_9 := hb 9 (by omega)
                have y_10 := hb 10 (by omega)
                simp only [Edu.cells, List.getElem?_cons_zero, List.getElem?_cons_succ, List.getElem?_toArray, Nat.add_zero] at y_0 y_1 y_2 y_3 y_4 y_5 y_6 y_7 y_8 y_9 y_10
                clear hb
                have PE := Lib.hid (P4F.out.chgNo E.out)
                have TK := Lib.hid (take_any w.heap.size w.heap.size n lost _ vb fe.room fe.event wr PE.out (by have := FC.out; omega))
                rw [filt_none, filt_same] at TK
                obtain ⟨lf, hlf⟩ : ∃ lf, lf = l'.filter (fun e => !isE fe.room fe.event e) := ⟨_, rfl⟩
                rw [← hlf] at TK FC PE
                clear hlf
                go_wp2_with fail
                refine TK.out.mono ?_
                rintro en w6 ⟨va6, vb6, rfl, hra6, hp6, ho6, hc6⟩
                obtain ⟨A6, c6, rfl⟩ := hra6.slice
                have C6 : Hid (Chg NoM w w6) := (C4.out.trans E.out).thenAll hc6 (fun i o h => by exact ParkX.new PE.out i o h)
                have P6 := Lib.hid hp6
                clear hra6 hp6 ho6 hc6 TK
                go_wp2_with fail
                exact ⟨⟨q + 1, lf, vb6, tz + ta.length, by omega, by omega, by go_num, rfl, P6, by show _ = _; have := FC.out; have := TZ.out; omega, by have := FC.out; omega, by omega, by have := FC.out; have := TZ.out; omega, C6⟩, by simp [intOf]; omega⟩
          · skip
            have PZ' := PZ.out
            have TZ' := TZ.out
            have hz : (l'.length : Int) + tz + lost = pz := by omega
            have hln' : (l'.length : Int) ≤ n := by omega
            clear PZ' TZ'
            go_wp2_with fail
            refine (len_any w.heap.size w.heap.size n lost l' v' wr P.out).mono ?_
            rintro en w8 ⟨rfl, rfl⟩
            go_wp2_with fail
            refine (lost_any w.heap.size w.heap.size n lost l' v' _ P.out).mono ?_
            rintro en w8 ⟨rfl, rfl⟩
            go_wp2_with fail
            refine (len_any w.heap.size w.heap.size n lost l' v' _ P.out).mono ?_
            rintro en w8 ⟨rfl, rfl⟩
            go_wp2_with fail
            refine (lives_true _).mono ?_
            rintro en w9 ⟨rfl, hc9⟩
            have C9 := Lib.hid (C.out.trans hc9)
            clear hc9
            go_wp2_with fail
            go_ret
            exact ⟨rfl, below_of_chg C9.out⟩
        · skip
          have PZ' := PZ.out
          have TZ' := TZ.out
          have hz : (l'.length : Int) + tz + lost = pz := by omega
          have hln' : (l'.length : Int) ≤ n := by omega
          clear PZ' TZ'
          go_wp2_with fail
          refine (len_any w.heap.size w.heap.size n lost l' v' wr P.out).mono ?_
          rintro en w8 ⟨rfl, rfl⟩
          go_wp2_with fail
          refine (lost_any w.heap.size w.heap.size n lost l' v' _ P.out).mono ?_
          rintro en w8 ⟨rfl, rfl⟩
          go_wp2_with fail
          refine (len_any w.heap.size w.heap.size n lost l' v' _ P.out).mono ?_
          rintro en w8 ⟨rfl, rfl⟩
          go_wp2_with fail
          refine (lives_true _).mono ?_
          rintro en w9 ⟨rfl, hc9⟩
          have C9 := Lib.hid (C.out.trans hc9)
          clear hc9
          go_wp2_with fail
          go_ret
          exact ⟨rfl, below_of_chg C9.out⟩
end Go.Proofs.Ytccppjhkffmnaaa
