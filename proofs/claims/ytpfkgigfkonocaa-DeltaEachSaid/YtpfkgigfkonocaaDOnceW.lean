/- The walk of DeltaOnce. -/
import Derived.Test.YtpfkgigfkonocaaDLives
namespace Go.Proofs.Ytpfkgigfkonocaa
set_option linter.unusedVariables false
set_option linter.unusedSimpArgs false
open Go.RowKit

def StrR (w : World) (d : ByteArray) (c : List Value) : Prop := c = [.string d] ∧ d.size ≤ 9223372036854775807
def BoolR (w : World) (d : Bool) (c : List Value) : Prop := c = [.bool d]
theorem str_at {w wr : World} {A : Option Addr} {ds : List ByteArray} (h : RowsAt StrR 1 w A ds) (hc : Chg NoM w wr) (k : Nat) (hk : k < ds.length) :
    ∃ b off d, A = some ⟨b, off, none⟩ ∧ wr.cell? ⟨b, off + k, none⟩ = some (.string d) ∧ d.size ≤ 9223372036854775807 ∧ ds[k]? = some d := by
  obtain ⟨b, off, hA, hall⟩ := h.2.2 (by omega)
  obtain ⟨c, ⟨hcs, h1⟩, _, hcell⟩ := hall k _ (List.getElem?_eq_getElem hk)
  subst hcs
  have c0 := hcell 0 _ rfl
  rw [Nat.mul_one, Nat.add_zero] at c0
  exact ⟨b, off, ds[k], hA, hc.cellNo c0, h1, List.getElem?_eq_getElem hk⟩
theorem bool_at {w wr : World} {A : Option Addr} {ds : List Bool} (h : RowsAt BoolR 1 w A ds) (hc : Chg NoM w wr) (k : Nat) (hk : k < ds.length) :
    ∃ b off d, A = some ⟨b, off, none⟩ ∧ wr.cell? ⟨b, off + k, none⟩ = some (.bool d) ∧ ds[k]? = some d := by
  obtain ⟨b, off, hA, hall⟩ := h.2.2 (by omega)
  obtain ⟨c, hcs, _, hcell⟩ := hall k _ (List.getElem?_eq_getElem hk)
  have hcs : c = [.bool ds[k]] := hcs
  subst hcs
  have c0 := hcell 0 _ rfl
  rw [Nat.mul_one, Nat.add_zero] at c0
  exact ⟨b, off, ds[k], hA, hc.cellNo c0, List.getElem?_eq_getElem hk⟩
set_option maxHeartbeats 4000000 in
theorem once_walk (A : Option Addr) (ds : List ByteArray) (c : Nat) (B : Option Addr) (asl : List Bool) (cb : Nat) (w : World) (hds : RowsAt StrR 1 w A ds) (has : RowsAt BoolR 1 w B asl) (hlen : ds.length ≤ 9223372036854775807) (hlen2 : asl.length ≤ 9223372036854775807) :
    Calls Try.prog 3 #[.slice A ds.length c, .slice B asl.length cb] w fun e w' => e = .returned (.bool true) ∧ Below w.heap.size w w' := by
  have HD := Lib.hid hds
  have HA := Lib.hid has
  clear hds has
  go_enter Try.func3, Try.ntmps3
  go_wp2_with fail
  refine (new_yes 0 100 w (by omega) (by omega) (by omega) (by omega)).mono ?_
  rintro e w1 ⟨rfl, hl1, hc1⟩
  have D1 := Lib.hid (Duo.nil hl1)
  have C1 := Lib.hid hc1
  clear hl1 hc1
  go_wp2_with fail
  go_loopw [7, 8, 9] (fun last bt i wr => ∃ (k : Nat) (pre bet : List ByteArray) (v : Value) (U : Option Addr) (cu : Nat), k ≤ ds.length ∧ k ≤ 16 ∧ i = .int .i64 k ∧ last = .int .i64 pre.length ∧ bt = .slice U bet.length cu ∧ Hid (Duo wr w.heap.size (w.heap.size + 2) 0 (pre ++ bet) 100 w.heap.size (w.heap.size + 1) v (.slice U bet.length cu) bet) ∧ Hid (pre.length + bet.length = k) ∧ Hid (∀ s ∈ pre ++ bet, s.size ≤ 2) ∧ Hid (Chg NoM w wr)) (fun _ _ i _ => ds.length - (intOf i).toNat)
  case atStart => exact ⟨0, [], [], _, none, 0, by omega, by omega, rfl, rfl, rfl, D1, rfl, (fun s hs => by simp at hs), C1⟩
  case round =>
    obtain ⟨k, pre, bet, v, U, cu, hk, hk16, rfl, rfl, rfl, D, KL, SZ, C⟩ := hrel
    have hp16 : pre.length ≤ 16 := by have := KL.out; omega
    have hb16 : bet.length ≤ 16 := by have := KL.out; omega
    by_cases hlt : k < ds.length
    · by_cases h16 : k < 16
      · obtain ⟨b, off, d, rfl, e0, hd, -⟩ := str_at HD.out C.out k hlt
        have FW := Lib.hid (few_any d 2 wr hd (by omega))
        have hs2 := fewS_size d 2
        have i0 : (0 : Int) ≤ (k : Int) := by omega
        have i1 : (k : Int) < (ds.length : Int) := by omega
        have i2 : (k : Int) < 16 := by omega
        clear hd
        go_wp2_with fail
        refine FW.out.mono ?_
        rintro e w' ⟨rfl, rfl⟩
        obtain ⟨s, hs⟩ : ∃ s, s = fewS d 2 := ⟨_, rfl⟩
        rw [← hs] at hs2 ⊢
        clear hs FW e0
        go_wp2_with fail
        refine (touch_ok s wr D.out.log (by omega) (by omega) (by have := KL.out; simp; omega) (by omega) (by have := KL.out; simp; omega)).mono ?_
        rintro e w3 ⟨rfl, v3, hl3, ho3, hc3⟩
        have C3 : Hid (Chg NoM w w3) := C.out.thenAll hc3 (fun i o h => by exact LogM.new D.out.log i o h)
        have D3 := Lib.hid (D.out.touch hl3 ho3 hc3)
        clear hl3 ho3 hc3
        go_wp2_with (refine wpList_append_Row _ rfl (.tmp 41) (.tmp 43) 22 rfl w.heap.size 9 _ 1 16 Try.underlying22 Try.info9 rfl (by omega) (.slice U bet.length cu) bet.length (scells bet) rfl ?c0 (some ⟨w3.heap.size, 0, none⟩) 1 1 (scells [s]) rfl rfl ?c1 ?c2 ?c3 ?c4 ?c5 ?_)
        case c0 => exact Row.chg D3.out.row ((Chg.refl (M := NoM) w3).alloc _) (fun _ _ _ _ _ h => h)
        case c1 =>
          first
            | exact fun _ => ⟨_, rfl, news_blk (cs := [Value.string s]) (blk_new w3 (.cells #[.string s] 9))⟩
            | (intro x u hu; exact hu)
        case c2 => exact scells_one _
        case c3 => omega
        case c4 => omega
        case c5 => exact (C3.out.alloc _).size
        intro v4 w4 R
        obtain ⟨hD4, hC4⟩ := D3.out.app R
        have C4 := Lib.hid (hC4 w C3.out (Nat.le_refl _))
        obtain ⟨bt, hbt⟩ : ∃ bt, bt = bet ++ [s] := ⟨_, rfl⟩
        rw [List.append_assoc, ← hbt] at hD4
        obtain ⟨U4, cu4, rfl, _⟩ := hD4.slice
        have D4 := Lib.hid hD4
        have KL4 : Hid (pre.length + bt.length = k + 1) := by show _ = _; have := KL.out; rw [hbt]; simp; omega
        have SZ4 : Hid (∀ x ∈ pre ++ bt, x.size ≤ 2) := by
          intro x hx
          rw [hbt, ← List.append_assoc] at hx
          rcases List.mem_append.1 hx with h | h
          · exact SZ.out x h
          · simp at h; rw [h]; exact hs2
        have hb17 : bt.length ≤ 17 := by have := KL4.out; omega
        clear R hD4 hC4 hbt D3 C3 D SZ KL hs2 hb16
        by_cases hka : k < asl.length
        · obtain ⟨b2, off2, a, rfl, e1, -⟩ := bool_at HA.out C4.out k hka
          have j1 : (k : Int) < (asl.length : Int) := by omega
          have hmin : min (k : Int) ((asl.length : Int) - 1) = (k : Int) := by omega
          cases a
          · go_wp2_with fail
            exact ⟨⟨k + 1, pre, bt, v3, U4, cu4, by omega, by omega, by go_num, rfl, rfl, D4, KL4, SZ4, C4⟩, by simp [intOf]; omega⟩
          · skip
            have SN := Lib.hid (since_any (pre.length : Int) w4 D4.out.log (fun x hx => by have := SZ4.out x hx; omega) (by have := KL4.out; simp; omega))
            rw [since_later] at SN
            have sl := since_len 0 bt 0
            go_wp2_with fail
            refine SN.out.mono ?_
            rintro e w5 ⟨g5, rfl, hg5, hb5, hc5⟩
            have C5 := Lib.hid (C4.out.trans hc5)
            have D5 := Lib.hid (D4.out.chgNo hc5)
            have S5 := Lib.hid (SO.blk hb5)
            clear hg5 hb5 hc5 SN
            go_wp2_with fail
            refine (rsince_any U4 cu4 0 0 bt w5 (SO.ofRow D5.out.row) (by omega) (by omega) (by omega)).mono ?_
            rintro e w6 ⟨A6, c6, rfl, hr6, hc6⟩
            have C6 := Lib.hid (C5.out.trans hc6)
            have D6 := Lib.hid (D5.out.chgNo hc6)
            have S6 := Lib.hid (S5.out.chgNo hc6)
            have T6 := Lib.hid (SO.ofRow hr6)
            clear hr6 hc6
            go_wp2_with fail
            refine (same_texts _ _ _ _ (sinceL 0 bt 0) w6 S6.out T6.out (by omega)).mono ?_
            rintro e w7 ⟨rfl, hc7⟩
            have C7 := Lib.hid (C6.out.trans hc7)
            have D7 := Lib.hid (D6.out.chgNo hc7)
            clear hc7
            go_wp2_with fail
            refine (at_any D7.out.log).mono ?_
            rintro e w8 ⟨rfl, rfl⟩
            go_wp2_with fail
            have hpl : (pre ++ bt).length = k + 1 := by rw [List.length_append]; exact KL4.out
            exact ⟨⟨k + 1, pre ++ bt, [], v3, none, 0, by omega, by omega, by go_num, by simp, rfl, by rw [List.append_nil]; exact Duo.nil D7.out.log, by show (pre ++ bt).length + 0 = k + 1; omega, by rw [List.append_nil]; exact SZ4, C7⟩, by simp [intOf]; omega⟩
        · go_wp2_with fail
          exact ⟨⟨k + 1, pre, bt, v3, U4, cu4, by omega, by omega, by go_num, rfl, rfl, D4, KL4, SZ4, C4⟩, by simp [intOf]; omega⟩
      · obtain rfl : k = 16 := by omega
        have SN := Lib.hid (since_any (pre.length : Int) wr D.out.log (fun x hx => by have := SZ.out x hx; omega) (by have := KL.out; simp; omega))
        rw [since_later] at SN
        have sl := since_len 0 bet 0
        go_wp2_with fail
        refine SN.out.mono ?_
        rintro e w5 ⟨g5, rfl, hg5, hb5, hc5⟩
        have C5 := Lib.hid (C.out.trans hc5)
        have D5 := Lib.hid (D.out.chgNo hc5)
        have S5 := Lib.hid (SO.blk hb5)
        clear hg5 hb5 hc5 SN
        go_wp2_with fail
        refine (rsince_any U cu 0 0 bet w5 (SO.ofRow D5.out.row) (by omega) (by omega) (by omega)).mono ?_
        rintro e w6 ⟨A6, c6, rfl, hr6, hc6⟩
        have C6 := Lib.hid (C5.out.trans hc6)
        have D6 := Lib.hid (D5.out.chgNo hc6)
        have S6 := Lib.hid (S5.out.chgNo hc6)
        have T6 := Lib.hid (SO.ofRow hr6)
        clear hr6 hc6
        go_wp2_with fail
        refine (same_texts _ _ _ _ (sinceL 0 bet 0) w6 S6.out T6.out (by omega)).mono ?_
        rintro e w7 ⟨rfl, hc7⟩
        have C7 := Lib.hid (C6.out.trans hc7)
        have D7 := Lib.hid (D6.out.chgNo hc7)
        clear hc7
        go_wp2_with fail
        refine (at_any D7.out.log).mono ?_
        rintro e w8 ⟨rfl, rfl⟩
        have SN2 := Lib.hid (since_any (0 + ((pre ++ bet).length : Int)) w7 D7.out.log (fun x hx => by have := SZ.out x hx; omega) (by have := KL.out; simp; omega))
        rw [since_end 0 (pre ++ bet) (0 + ((pre ++ bet).length : Int)) (by omega)] at SN2
        generalize (0 : Int) + ((pre ++ bet).length : Int) = z at SN2 ⊢
        go_wp2_with fail
        refine SN2.out.mono ?_
        rintro e w9 ⟨g9, rfl, hg9, hb9, hc9⟩
        have C9 := Lib.hid (C7.out.trans hc9)
        clear hg9 hb9 hc9 SN2
        go_wp2_with fail
        refine (lives_true _).mono ?_
        rintro e w10 ⟨rfl, hc10⟩
        have C10 := Lib.hid (C9.out.trans hc10)
        clear hc10
        go_wp2_with fail
        go_ret
        exact ⟨rfl, below_of_chg C10.out⟩
    · obtain rfl : ds.length = k := by omega
      have SN := Lib.hid (since_any (pre.length : Int) wr D.out.log (fun x hx => by have := SZ.out x hx; omega) (by have := KL.out; simp; omega))
      rw [since_later] at SN
      have sl := since_len 0 bet 0
      go_wp2_with fail
      refine SN.out.mono ?_
      rintro e w5 ⟨g5, rfl, hg5, hb5, hc5⟩
      have C5 := Lib.hid (C.out.trans hc5)
      have D5 := Lib.hid (D.out.chgNo hc5)
      have S5 := Lib.hid (SO.blk hb5)
      clear hg5 hb5 hc5 SN
      go_wp2_with fail
      refine (rsince_any U cu 0 0 bet w5 (SO.ofRow D5.out.row) (by omega) (by omega) (by omega)).mono ?_
      rintro e w6 ⟨A6, c6, rfl, hr6, hc6⟩
      have C6 := Lib.hid (C5.out.trans hc6)
      have D6 := Lib.hid (D5.out.chgNo hc6)
      have S6 := Lib.hid (S5.out.chgNo hc6)
      have T6 := Lib.hid (SO.ofRow hr6)
      clear hr6 hc6
      go_wp2_with fail
      refine (same_texts _ _ _ _ (sinceL 0 bet 0) w6 S6.out T6.out (by omega)).mono ?_
      rintro e w7 ⟨rfl, hc7⟩
      have C7 := Lib.hid (C6.out.trans hc7)
      have D7 := Lib.hid (D6.out.chgNo hc7)
      clear hc7
      go_wp2_with fail
      refine (at_any D7.out.log).mono ?_
      rintro e w8 ⟨rfl, rfl⟩
      have SN2 := Lib.hid (since_any (0 + ((pre ++ bet).length : Int)) w7 D7.out.log (fun x hx => by have := SZ.out x hx; omega) (by have := KL.out; simp; omega))
      rw [since_end 0 (pre ++ bet) (0 + ((pre ++ bet).length : Int)) (by omega)] at SN2
      generalize (0 : Int) + ((pre ++ bet).length : Int) = z at SN2 ⊢
      go_wp2_with fail
      refine SN2.out.mono ?_
      rintro e w9 ⟨g9, rfl, hg9, hb9, hc9⟩
      have C9 := Lib.hid (C7.out.trans hc9)
      clear hg9 hb9 hc9 SN2
      go_wp2_with fail
      refine (lives_true _).mono ?_
      rintro e w10 ⟨rfl, hc10⟩
      have C10 := Lib.hid (C9.out.trans hc10)
      clear hc10
      go_wp2_with fail
      go_ret
      exact ⟨rfl, below_of_chg C10.out⟩
end Go.Proofs.Ytpfkgigfkonocaa
