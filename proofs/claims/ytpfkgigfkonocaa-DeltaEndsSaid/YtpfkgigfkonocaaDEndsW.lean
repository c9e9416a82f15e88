/- The walk of DeltaEnds. -/
import Derived.Test.YtpfkgigfkonocaaDOnceW
namespace Go.Proofs.Ytpfkgigfkonocaa
set_option linter.unusedVariables false
set_option linter.unusedSimpArgs false
open Go.RowKit
set_option maxHeartbeats 4000000 in
theorem ends_walk (A : Option Addr) (ds : List ByteArray) (c : Nat) (most : Int) (w : World) (hds : RowsAt StrR 1 w A ds) (h1 : -9223372036854775808 ≤ most) (h2 : most ≤ 9223372036854775807) (hlen : ds.length ≤ 9223372036854775807) :
    Calls Try.prog 4 #[.slice A ds.length c, .int .i64 most] w fun e w' => e = .returned (.bool true) ∧ Below w.heap.size w w' := by
  have HD := Lib.hid hds
  have hb := aroundI_bd most 8 (by omega)
  have A0 := Lib.hid (around_any most 8 w h1 h2 (by omega) (by omega))
  obtain ⟨u, hu⟩ : ∃ x, x = aroundI most 8 := ⟨_, rfl⟩
  rw [← hu] at hb A0
  obtain ⟨hb1, hb2⟩ := hb
  clear hu hds h1 h2
  go_enter Try.func4, Try.ntmps4
  go_wp2_with fail
  refine A0.out.mono ?_
  rintro e w' ⟨rfl, rfl⟩
  obtain ⟨n, hn⟩ : ∃ n, n = 1 + u := ⟨_, rfl⟩
  have hn1 : 1 ≤ n := by omega
  have hn2 : n ≤ 8 := by omega
  go_wp2_with fail
  try rw [← hn]
  refine (new_yes 0 n w (by omega) (by omega) (by omega) (by omega)).mono ?_
  rintro e w1 ⟨rfl, hl1, hc1⟩
  have D1 := Lib.hid (Duo.nil hl1)
  have C1 := Lib.hid hc1
  clear hl1 hc1 hn hb1 hb2
  go_wp2_with fail
  go_loopw [8, 9] (fun ow i wr => ∃ (k : Nat) (own : List ByteArray) (v : Value) (U : Option Addr) (cu : Nat), k ≤ ds.length ∧ k ≤ 9 ∧ i = .int .i64 k ∧ ow = .slice U own.length cu ∧ Hid (Duo wr w.heap.size (w.heap.size + 2) 0 own n w.heap.size (w.heap.size + 1) v (.slice U own.length cu) own) ∧ Hid ((own.length : Int) = min (k : Int) n) ∧ Hid (∀ s ∈ own, s.size ≤ 2) ∧ Hid (Chg NoM w wr)) (fun _ i _ => ds.length - (intOf i).toNat)
  case atStart => exact ⟨0, [], _, none, 0, by omega, by omega, rfl, rfl, D1, by show (0 : Int) = min 0 n; omega, (fun s hs => by simp at hs), C1⟩
  case round =>
    obtain ⟨k, own, v, U, cu, hk, hk9, rfl, rfl, D, KL, SZ, C⟩ := hrel
    have ho9 : own.length ≤ 9 := by have := KL.out; omega
    have hon : (own.length : Int) ≤ n := by have := KL.out; omega
    by_cases hlt : k < ds.length
    · by_cases h16 : k < 9
      · obtain ⟨b, off, d, rfl, e0, hd, -⟩ := str_at HD.out C.out k hlt
        have FW := Lib.hid (few_any d 2 wr hd (by omega))
        have hs2 := fewS_size d 2
        have i0 : (0 : Int) ≤ (k : Int) := by omega
        have i1 : (k : Int) < (ds.length : Int) := by omega
        have i2 : (k : Int) < 9 := by omega
        clear hd
        go_wp2_with fail
        refine FW.out.mono ?_
        rintro e w' ⟨rfl, rfl⟩
        obtain ⟨s, hs⟩ : ∃ s, s = fewS d 2 := ⟨_, rfl⟩
        rw [← hs] at hs2 ⊢
        clear hs FW e0
        by_cases hkn : (k : Int) < n
        · have ok : own.length = k := by have := KL.out; omega
          have TC := Lib.hid (touch_ok s wr D.out.log (by omega) (by omega) (by omega) (by omega) (by omega))
          rw [ok, Int.zero_add] at TC
          have OK := Lib.hid ok
          clear ok
          go_wp2_with fail
          refine TC.out.mono ?_
          rintro e w3 ⟨rfl, v3, hl3, ho3, hc3⟩
          have C3 : Hid (Chg NoM w w3) := C.out.thenAll hc3 (fun i o h => by exact LogM.new D.out.log i o h)
          have D3 := Lib.hid (D.out.touch hl3 ho3 hc3)
          clear hl3 ho3 hc3 TC
          go_wp2_with (refine wpList_append_Row _ rfl (.tmp 51) (.tmp 53) 22 rfl w.heap.size 9 _ 1 16 Try.underlying22 Try.info9 rfl (by omega) (.slice U own.length cu) own.length (scells own) rfl ?c0 (some ⟨w3.heap.size, 0, none⟩) 1 1 (scells [s]) rfl rfl ?c1 ?c2 ?c3 ?c4 ?c5 ?_)
          case c0 => exact Row.chg D3.out.row ((Chg.refl (M := NoM) w3).alloc _) (fun _ _ _ _ _ h => h)
          case c1 =>
            first
              | exact fun _ => ⟨_, rfl, news_blk (cs := [Value.string s]) (blk_new w3 (.cells #[.string s] 9))⟩
              | (intro x u hu; exact hu)
          case c2 => exact scells_one _
          case c3 => omega
          case c4 => omega
          case c5 => exact (C3.out.alloc _).size
          intro v4 w4 R
          obtain ⟨hD4, hC4⟩ := D3.out.app R
          have C4 := Lib.hid (hC4 w C3.out (Nat.le_refl _))
          obtain ⟨bt, hbt⟩ : ∃ bt, bt = own ++ [s] := ⟨_, rfl⟩
          rw [← hbt] at hD4
          obtain ⟨U4, cu4, rfl, _⟩ := hD4.slice
          have D4 := Lib.hid hD4
          have KL4 : Hid ((bt.length : Int) = min ((k + 1 : Nat) : Int) n) := by show _ = _; have := OK.out; rw [hbt]; simp; omega
          have SZ4 : Hid (∀ x ∈ bt, x.size ≤ 2) := by
            intro x hx
            rw [hbt] at hx
            rcases List.mem_append.1 hx with h | h
            · exact SZ.out x h
            · simp at h; rw [h]; exact hs2
          clear R hD4 hC4 hbt D3 C3 D SZ KL hs2
          go_wp2_with fail
          exact ⟨⟨k + 1, bt, v3, U4, cu4, by omega, by omega, by go_num, rfl, D4, KL4, SZ4, C4⟩, by simp [intOf]; omega⟩
        · have ok : 0 + (own.length : Int) = n := by have := KL.out; omega
          have TC := Lib.hid (touch_full s wr D.out.log (by omega) ok (by omega))
          have KL4 : Hid ((own.length : Int) = min ((k + 1 : Nat) : Int) n) := by show _ = _; have := KL.out; omega
          clear ok
          go_wp2_with fail
          refine TC.out.mono ?_
          rintro e w3 ⟨rfl, hl3, hc3⟩
          have C3 : Hid (Chg NoM w w3) := C.out.thenAll hc3 (fun i o h => by exact LogM.new D.out.log i o h)
          have D3 := Lib.hid (D.out.touch hl3 (fun g hg => .inl hg) hc3)
          clear hl3 hc3 TC
          go_wp2_with fail
          exact ⟨⟨k + 1, own, v, U, cu, by omega, by omega, by go_num, rfl, D3, KL4, SZ, C3⟩, by simp [intOf]; omega⟩
      · obtain rfl : k = 9 := by omega
        have SN := Lib.hid (since_any 0 wr D.out.log (fun x hx => by have := SZ.out x hx; omega) (by omega))
        have sl := since_len 0 own 0
        have lz : 0 + (own.length : Int) ≤ n := by omega
        go_wp2_with fail
        refine SN.out.mono ?_
        rintro e w5 ⟨g5, rfl, hg5, hb5, hc5⟩
        have C5 := Lib.hid (C.out.trans hc5)
        have D5 := Lib.hid (D.out.chgNo hc5)
        have S5 := Lib.hid (SO.blk hb5)
        clear hg5 hb5 hc5 SN
        go_wp2_with fail
        refine (rsince_any U cu 0 0 own w5 (SO.ofRow D5.out.row) (by omega) (by omega) (by omega)).mono ?_
        rintro e w6 ⟨A6, c6, rfl, hr6, hc6⟩
        have C6 := Lib.hid (C5.out.trans hc6)
        have D6 := Lib.hid (D5.out.chgNo hc6)
        have S6 := Lib.hid (S5.out.chgNo hc6)
        have T6 := Lib.hid (SO.ofRow hr6)
        clear hr6 hc6
        go_wp2_with fail
        refine (same_texts _ _ _ _ (sinceL 0 own 0) w6 S6.out T6.out (by omega)).mono ?_
        rintro e w7 ⟨rfl, hc7⟩
        have C7 := Lib.hid (C6.out.trans hc7)
        have D7 := Lib.hid (D6.out.chgNo hc7)
        clear hc7
        go_wp2_with fail
        refine (at_any D7.out.log).mono ?_
        rintro e w8 ⟨rfl, rfl⟩
        rw [Int.zero_add]
        go_wp2_with fail
        have RM := Lib.hid (room_any D7.out.log (by omega) (by omega) (by omega))
        rw [Int.zero_add] at RM
        refine RM.out.mono ?_
        rintro e w9 ⟨rfl, hc9⟩
        have C9 := Lib.hid (C7.out.trans hc9)
        clear hc9 RM
        go_wp2_with fail
        refine (lives_true _).mono ?_
        rintro e w10 ⟨rfl, hc10⟩
        have C10 := Lib.hid (C9.out.trans hc10)
        clear hc10
        go_wp2_with fail
        go_ret
        exact ⟨rfl, below_of_chg C10.out⟩
    · obtain rfl : ds.length = k := by omega
      have SN := Lib.hid (since_any 0 wr D.out.log (fun x hx => by have := SZ.out x hx; omega) (by omega))
      have sl := since_len 0 own 0
      have lz : 0 + (own.length : Int) ≤ n := by omega
      go_wp2_with fail
      refine SN.out.mono ?_
      rintro e w5 ⟨g5, rfl, hg5, hb5, hc5⟩
      have C5 := Lib.hid (C.out.trans hc5)
      have D5 := Lib.hid (D.out.chgNo hc5)
      have S5 := Lib.hid (SO.blk hb5)
      clear hg5 hb5 hc5 SN
      go_wp2_with fail
      refine (rsince_any U cu 0 0 own w5 (SO.ofRow D5.out.row) (by omega) (by omega) (by omega)).mono ?_
      rintro e w6 ⟨A6, c6, rfl, hr6, hc6⟩
      have C6 := Lib.hid (C5.out.trans hc6)
      have D6 := Lib.hid (D5.out.chgNo hc6)
      have S6 := Lib.hid (S5.out.chgNo hc6)
      have T6 := Lib.hid (SO.ofRow hr6)
      clear hr6 hc6
      go_wp2_with fail
      refine (same_texts _ _ _ _ (sinceL 0 own 0) w6 S6.out T6.out (by omega)).mono ?_
      rintro e w7 ⟨rfl, hc7⟩
      have C7 := Lib.hid (C6.out.trans hc7)
      have D7 := Lib.hid (D6.out.chgNo hc7)
      clear hc7
      go_wp2_with fail
      refine (at_any D7.out.log).mono ?_
      rintro e w8 ⟨rfl, rfl⟩
      rw [Int.zero_add]
      go_wp2_with fail
      have RM := Lib.hid (room_any D7.out.log (by omega) (by omega) (by omega))
      rw [Int.zero_add] at RM
      refine RM.out.mono ?_
      rintro e w9 ⟨rfl, hc9⟩
      have C9 := Lib.hid (C7.out.trans hc9)
      clear hc9 RM
      go_wp2_with fail
      refine (lives_true _).mono ?_
      rintro e w10 ⟨rfl, hc10⟩
      have C10 := Lib.hid (C9.out.trans hc10)
      clear hc10
      go_wp2_with fail
      go_ret
      exact ⟨rfl, below_of_chg C10.out⟩
end Go.Proofs.Ytpfkgigfkonocaa
