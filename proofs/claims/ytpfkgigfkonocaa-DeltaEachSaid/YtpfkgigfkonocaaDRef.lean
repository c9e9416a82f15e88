/- The reference of layer 20: Pos, Since; package delta: Pos, and Touch at the end. -/
import Derived.Test.YtpfkgigfkonocaaDSince
namespace Go.Proofs.Ytpfkgigfkonocaa
set_option linter.unusedVariables false
set_option linter.unusedSimpArgs false
open Go.RowKit
variable {w w' : World} {base lb nb mb : Nat} {f most : Int} {own : List ByteArray} {v : Value}

theorem pos_yes (s : ByteArray) (w : World) (h : LogAt w base lb f own most nb mb v) (hs : s.size ≤ 1000) (hm : s ∈ own) :
    Calls Try.prog 20 #[.pointer (some ⟨lb, 0, none⟩), .string s] w fun en w' => en = .returned (.tuple #[.int .i64 (posOf f own s), .bool true]) ∧ w = w' := by
  obtain ⟨fm, hm1, hm2⟩ := h.map
  have hlk : (Instr.lookup 57 (.map (some mb)) (.string s) true).run Try.prog w = .ok (.tuple #[.int .i64 (posOf f own s), .bool true]) w := by
    rw [hm1.look keyed9 Try.underlying57 zero3 (key_s hs) true, hm2.1 s hm]; rfl
  have HLK := Lib.hid hlk
  have k2 := blk_cell h.box 2
  clear h hm1 hm2 hlk hm
  go_enter Try.func20, Try.ntmps20
  go_wp2_with (refine wpList_look_run rfl (.tmp 12) (.tmp 13) 57 true rfl HLK.out ?_)
  go_ret2
  exact ⟨rfl, rfl⟩
theorem pos_no (s : ByteArray) (w : World) (h : LogAt w base lb f own most nb mb v) (hs : s.size ≤ 1000) (hm : s ∉ own) :
    Calls Try.prog 20 #[.pointer (some ⟨lb, 0, none⟩), .string s] w fun en w' => en = .returned (.tuple #[.int .i64 0, .bool false]) ∧ w = w' := by
  obtain ⟨fm, hm1, hm2⟩ := h.map
  have hlk : (Instr.lookup 57 (.map (some mb)) (.string s) true).run Try.prog w = .ok (.tuple #[.int .i64 0, .bool false]) w := by
    rw [hm1.look keyed9 Try.underlying57 zero3 (key_s hs) true, hm2.2 s hm]; rfl
  have HLK := Lib.hid hlk
  have k2 := blk_cell h.box 2
  clear h hm1 hm2 hlk hm
  go_enter Try.func20, Try.ntmps20
  go_wp2_with (refine wpList_look_run rfl (.tmp 12) (.tmp 13) 57 true rfl HLK.out ?_)
  go_ret2
  exact ⟨rfl, rfl⟩
set_option maxHeartbeats 1000000 in
theorem touch_full (s : ByteArray) (w : World) (h : LogAt w base lb f own most nb mb v) (h0 : 0 ≤ f) (h1 : f + own.length = most) (h2 : most ≤ 1099511627776) :
    Calls Try.prog 10 #[.pointer (some ⟨lb, 0, none⟩), .string s] w fun e w' => e = .returned (.tuple #[.int .i64 0, .int .i64 11]) ∧ LogAt w' base lb f own most nb mb v ∧ Chg (LogM lb nb mb v) w w' := by
  have NX := Lib.hid (cnext_any nb (f + own.length) most w h.ctr (by omega) (by omega) h2)
  have eE : addE 1 (f + own.length) most = 11 := by unfold addE; rw [if_neg (by omega), if_pos (by omega)]
  have eN : addN 1 (f + own.length) most = f + own.length := by unfold addN; rw [if_neg (by omega), Int.min_eq_right (by omega)]; omega
  have eR : addR 1 (f + own.length) most = 0 := by unfold addR; rw [eE, if_neg (by decide)]
  rw [eE, eN, eR] at NX
  have k0 := blk_cell h.box 0
  have HL := Lib.hid h
  clear h eE eN eR
  go_enter Try.func10, Try.ntmps10
  go_wp2_with fail
  refine NX.out.mono ?_
  rintro e w1 ⟨rfl, hc1, hg1, hs1⟩
  have L1 : Hid (LogAt w1 base lb f own most nb mb v) := ⟨hg1.block _ _ HL.out.box (BoxM.ne (by decide)), hc1, HL.out.map.imp fun _ hm => ⟨hm.1.chg hg1 (fun es c => by rintro ⟨_, _, _, h⟩; cases h), hm.2⟩, Row.chg HL.out.row hg1 (fun g c f _ _ => BoxM.ne (by decide)), HL.out.lo⟩
  have G1 : Hid (Chg (LogM lb nb mb v) w w1) := hg1.mono (fun k o _ h => .inr (.inl h))
  clear hc1 hg1 hs1
  go_wp2_with fail
  go_ret2
  exact ⟨rfl, L1.out, G1.out⟩
set_option maxHeartbeats 1000000 in
theorem rpos_any (A : Option Addr) (c : Nat) (f : Int) (own : List ByteArray) (x : ByteArray) (w : World) (hl : SO w A own) (h0 : 0 ≤ f) (h1 : f ≤ 2000) (hn : own.length ≤ 1000) :
    Calls Try.prog 21 #[.slice A own.length c, .int .i64 f, .string x] w fun en w' => en = .returned (.int .i64 (posOf f own x)) ∧ w = w' := by
  have HL := Lib.hid hl
  clear hl
  go_enter Try.func21, Try.ntmps21
  go_wp2_with fail
  go_loopw [7] (fun i wr => ∃ j : Nat, j ≤ own.length ∧ i = .int .i64 ((j : Int) - 1) ∧ Hid (posOf f own x = posOf f (own.take j) x) ∧ w = wr) (fun i _ => (intOf i + 1).toNat)
  case atStart => exact ⟨own.length, by omega, rfl, (by rw [List.take_length]; rfl), rfl⟩
  case round =>
    obtain ⟨j, hj, rfl, HP, rfl⟩ := hrel
    by_cases h00 : j = 0
    · subst h00
      have e0 : Hid (posOf f own x = 0) := by rw [HP.out]; rfl
      go_wp2_with fail
      go_ret
      exact ⟨by rw [e0.out]; rfl, rfl⟩
    · obtain ⟨i, rfl⟩ : ∃ i, j = i + 1 := ⟨j - 1, by omega⟩
      obtain ⟨s, hk⟩ : ∃ s, own[i]? = some s := ⟨_, List.getElem?_eq_getElem (by omega)⟩
      obtain ⟨g, off, rfl, e0⟩ := HL.out.at i s hk
      have htk : own.take (i + 1) = own.take i ++ [s] := by
        rw [List.take_succ_eq_append_getElem (List.getElem?_eq_some_iff.1 hk).1, (List.getElem?_eq_some_iff.1 hk).2]
      have hlen : (own.take i).length = i := by rw [List.length_take]; omega
      rw [htk, posOf_snoc, hlen] at HP
      have i0 : (0 : Int) ≤ (i : Int) := by omega
      have i1 : (i : Int) < (own.length : Int) := by omega
      have i2 : (i : Int) ≤ 1000 := by omega
      clear htk hlen hk
      rw [show ((i + 1 : Nat) : Int) - 1 = (i : Int) by omega]
      by_cases he : s = x
      · have hq := toList_eq he
        rw [if_pos he] at HP
        clear he
        go_wp2_with fail
        go_ret
        exact ⟨by rw [HP.out]; rfl, rfl⟩
      · have hq := toList_ne he
        rw [if_neg he] at HP
        clear he
        go_wp2_with fail
        refine ⟨⟨i, by omega, rfl, HP, trivial⟩, by simp [intOf]⟩
def selL (f : Int) (own : List ByteArray) (n : Int) (k : Nat) : List ByteArray := (((zed f own).take k).filter fun q => decide (n < q.2) && decide (posOf f own q.1 = q.2)).map (·.1)
theorem selL_all (f : Int) (own : List ByteArray) (n : Int) : selL f own n own.length = sinceL f own n := by
  unfold selL sinceL kof
  rw [List.take_of_length_le (by rw [zed_len]; omega), List.filter_filter]
theorem selL_step {f : Int} {own : List ByteArray} {n : Int} {k : Nat} {s : ByteArray} (h : own[k]? = some s) : selL f own n (k + 1) = selL f own n k ++ (if n < f + 1 + k ∧ posOf f own s = f + 1 + k then [s] else []) := by
  have hz := zed_get f own k s h
  unfold selL
  rw [List.take_succ_eq_append_getElem (List.getElem?_eq_some_iff.1 hz).1, (List.getElem?_eq_some_iff.1 hz).2, List.filter_append, List.map_append]
  congr 1
  by_cases h1 : n < f + 1 + k <;> by_cases h2 : posOf f own s = f + 1 + k <;> simp [h1, h2]
theorem selL_len (f : Int) (own : List ByteArray) (n : Int) (k : Nat) : (selL f own n k).length ≤ k := by
  unfold selL
  rw [List.length_map]
  have h := List.length_filter_le (fun q : ByteArray × Int => decide (n < q.2) && decide (posOf f own q.1 = q.2)) ((zed f own).take k)
  rw [List.length_take] at h
  omega
set_option maxHeartbeats 2000000 in
theorem rsince_any (A : Option Addr) (c : Nat) (f n : Int) (own : List ByteArray) (w : World) (hl : SO w A own) (h0 : 0 ≤ f) (h1 : f ≤ 2000) (hn : own.length ≤ 1000) :
    Calls Try.prog 12 #[.slice A own.length c, .int .i64 f, .int .i64 n] w fun en w' => ∃ A' c', en = .returned (.slice A' (sinceL f own n).length c') ∧ Row w' w.heap.size 9 1 (.slice A' (sinceL f own n).length c') (sinceL f own n).length (scells (sinceL f own n)) ∧ Chg NoM w w' := by
  have HL := Lib.hid hl
  clear hl
  go_enter Try.func12, Try.ntmps12
  go_wp2_with fail
  go_loopw [7, 8] (fun out i wr => ∃ (k : Nat) (L : List ByteArray) (AL : Option Addr) (cL : Nat), k ≤ own.length ∧ i = .int .i64 k ∧ out = .slice AL L.length cL ∧ Hid (L = selL f own n k) ∧ Hid (Row wr w.heap.size 9 1 (.slice AL L.length cL) L.length (scells L)) ∧ Hid (Chg NoM w wr)) (fun _ i _ => own.length - (intOf i).toNat)
  case atStart => exact ⟨0, [], none, 0, by omega, rfl, rfl, rfl, Row.nil _ _ _ _, Chg.refl w⟩
  case round =>
    obtain ⟨k, L, AL, cL, hk, rfl, rfl, HS, HR, C⟩ := hrel
    have hL : L.length ≤ 1000 := by have := selL_len f own n k; rw [← HS.out] at this; omega
    by_cases hlt : k < own.length
    · obtain ⟨s, hs⟩ : ∃ s, own[k]? = some s := ⟨_, List.getElem?_eq_getElem hlt⟩
      have hstep := selL_step (f := f) (n := n) hs
      obtain ⟨g, off, rfl, e0⟩ := (HL.out.chgNo C.out).at k s hs
      have i0 : (0 : Int) ≤ (k : Int) := by omega
      have i1 : (k : Int) < (own.length : Int) := by omega
      have i2 : (k : Int) ≤ 1000 := by omega
      have RP := Lib.hid (rpos_any (some ⟨g, off, none⟩) c f own s wr (HL.out.chgNo C.out) h0 h1 hn)
      clear hs
      by_cases p1 : n < f + 1 + (k : Int)
      · by_cases p2 : posOf f own s = f + 1 + (k : Int)
        · rw [if_pos ⟨p1, p2⟩] at hstep
          have HST := Lib.hid hstep
          rw [p2] at RP
          clear hstep p2
          go_wp2_with fail
          refine RP.out.mono ?_
          rintro e w' ⟨rfl, rfl⟩
          go_wp2_with (refine wpList_append_Row _ rfl (.tmp 34) (.tmp 39) 22 rfl w.heap.size 9 _ 1 16 Try.underlying22 Try.info9 rfl (by omega) (.slice AL L.length cL) L.length (scells L) rfl ?c0 (some ⟨wr.heap.size, 0, none⟩) 1 1 (scells [s]) rfl rfl ?c1 ?c2 ?c3 ?c4 ?c5 ?_)
          case c0 => exact Row.chg HR.out ((Chg.refl (M := NoM) wr).alloc _) (fun _ _ _ _ _ h => h)
          case c1 =>
            first
              | exact fun _ => ⟨_, rfl, news_blk (cs := [Value.string s]) (blk_new wr (.cells #[.string s] 9))⟩
              | (intro x u hu; exact hu)
          case c2 => exact scells_one _
          case c3 => omega
          case c4 => omega
          case c5 => exact (C.out.alloc _).size
          intro v3 w3 R
          have hr3 := R.row
          rw [← scells_append] at hr3
          obtain ⟨A3, c3, rfl, hc3a, hc3b⟩ := hr3.slice
          have R3 := Lib.hid hr3
          have C3 : Hid (Chg NoM w w3) := (C.out.alloc _).thenAll R.chg (fun i o h => Row.own_ge HR.out h.own)
          clear R hr3
          go_wp2_with fail
          refine ⟨⟨k + 1, L ++ [s], A3, c3, by omega, by go_num, by simp, by show _ = _; rw [HST.out, HS.out], by rw [List.length_append, List.length_singleton]; exact R3, C3⟩, by simp [intOf]; omega⟩
        · rw [if_neg (fun h => p2 h.2), List.append_nil] at hstep
          have HST := Lib.hid hstep
          have hne : (posOf f own s == f + 1 + (k : Int)) = false := by simp [p2]
          clear hstep
          go_wp2_with fail
          refine RP.out.mono ?_
          rintro e w' ⟨rfl, rfl⟩
          go_wp2_with fail
          refine ⟨⟨k + 1, L, AL, cL, by omega, by go_num, rfl, by show _ = _; rw [HST.out, HS.out], HR, C⟩, by simp [intOf]; omega⟩
      · rw [if_neg (fun h => p1 h.1), List.append_nil] at hstep
        have HST := Lib.hid hstep
        clear hstep RP
        go_wp2_with fail
        refine ⟨⟨k + 1, L, AL, cL, by omega, by go_num, rfl, by show _ = _; rw [HST.out, HS.out], HR, C⟩, by simp [intOf]; omega⟩
    · obtain rfl : k = own.length := by omega
      have HE : Hid (L = sinceL f own n) := by show _ = _; rw [HS.out, selL_all]
      go_wp2_with fail
      go_ret
      rw [← HE.out]
      exact ⟨AL, cL, rfl, HR.out, C.out⟩
end Go.Proofs.Ytpfkgigfkonocaa
