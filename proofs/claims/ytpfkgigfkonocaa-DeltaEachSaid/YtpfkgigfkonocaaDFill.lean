/- fill: a log and its keys. -/
import Derived.Test.YtpfkgigfkonocaaDOnceW
namespace Go.Proofs.Ytpfkgigfkonocaa
set_option linter.unusedVariables false
set_option linter.unusedSimpArgs false
open Go.RowKit
set_option maxHeartbeats 4000000 in
theorem fill_any (f0 : Int) (m : Nat) (A : Option Addr) (ds : List ByteArray) (c : Nat) (w0 w : World) (hds : RowsAt StrR 1 w0 A ds) (hc0 : Chg NoM w0 w) (h1 : 0 ≤ f0) (h2 : f0 ≤ 1000) (hm : 1 ≤ m) (hm2 : m ≤ 20) (hlen : ds.length ≤ 9223372036854775807) :
    Calls Try.prog 19 #[.int .i64 f0, .slice A ds.length c, .int .i64 m] w fun e w' => ∃ lb own v U cu, e = .returned (.tuple #[.pointer (some ⟨lb, 0, none⟩), .slice U own.length cu]) ∧ Duo w' w.heap.size lb f0 own (f0 + m) w.heap.size (w.heap.size + 1) v (.slice U own.length cu) own ∧ (∀ s ∈ own, s.size ≤ 2) ∧ own.length ≤ m ∧ Chg NoM w w' := by
  have HD := Lib.hid hds
  have H0 := Lib.hid hc0
  have m1 : (1 : Int) ≤ (m : Int) := by omega
  have m2 : (m : Int) ≤ 20 := by omega
  obtain ⟨mz, hmz⟩ : ∃ mz : Int, mz = m := ⟨_, rfl⟩
  rw [← hmz] at m1 m2 ⊢
  have HMZ := Lib.hid hmz
  have NY := Lib.hid (new_yes f0 (f0 + mz) w h1 (by omega) (by omega) (by omega))
  clear hds hc0 hm hm2 hmz
  go_enter Try.func19, Try.ntmps19
  go_wp2_with fail
  refine NY.out.mono ?_
  rintro e w1 ⟨rfl, hl1, hc1⟩
  have D1 := Lib.hid (Duo.nil hl1)
  have C1 := Lib.hid hc1
  clear hl1 hc1 NY
  go_wp2_with fail
  go_loopw [10, 11] (fun ow i wr => ∃ (k : Nat) (own : List ByteArray) (v : Value) (U : Option Addr) (cu : Nat), k ≤ ds.length ∧ (k : Int) ≤ mz ∧ i = .int .i64 k ∧ ow = .slice U own.length cu ∧ Hid (Duo wr w.heap.size (w.heap.size + 2) f0 own (f0 + mz) w.heap.size (w.heap.size + 1) v (.slice U own.length cu) own) ∧ Hid (own.length = k) ∧ Hid (∀ s ∈ own, s.size ≤ 2) ∧ Hid (Chg NoM w wr)) (fun _ i _ => ds.length - (intOf i).toNat)
  case atStart => exact ⟨0, [], _, none, 0, by omega, by omega, rfl, rfl, D1, rfl, (fun s hs => by simp at hs), C1⟩
  case round =>
    obtain ⟨k, own, v, U, cu, hk, hk9, rfl, rfl, D, KL, SZ, C⟩ := hrel
    have hMZ := HMZ.out
    have ho9 : own.length ≤ 20 := by have := KL.out; omega
    have HK20 := Lib.hid (show own.length ≤ m by have := KL.out; omega)
    clear hMZ
    by_cases hlt : k < ds.length
    · by_cases h16 : (k : Int) < mz
      · obtain ⟨b, off, d, rfl, e0, hd, -⟩ := str_at HD.out (H0.out.trans C.out) k hlt
        have FW := Lib.hid (few_any d 2 wr hd (by omega))
        have hs2 := fewS_size d 2
        have i0 : (0 : Int) ≤ (k : Int) := by omega
        have i1 : (k : Int) < (ds.length : Int) := by omega
        have TC := Lib.hid (fun s hs => touch_ok s wr D.out.log hs h1 (by have := KL.out; omega) (by omega) (by omega))
        rw [KL.out] at TC
        clear hd
        go_wp2_with fail
        refine FW.out.mono ?_
        rintro e w' ⟨rfl, rfl⟩
        obtain ⟨s, hs⟩ : ∃ s, s = fewS d 2 := ⟨_, rfl⟩
        rw [← hs] at hs2 ⊢
        clear hs FW e0
        go_wp2_with fail
        refine (TC.out s (by omega)).mono ?_
        rintro e w3 ⟨rfl, v3, hl3, ho3, hc3⟩
        have C3 : Hid (Chg NoM w w3) := C.out.thenAll hc3 (fun i o h => by exact LogM.new D.out.log i o h)
        have D3 := Lib.hid (D.out.touch hl3 ho3 hc3)
        clear hl3 ho3 hc3 TC
        go_wp2_with (refine wpList_append_Row _ rfl (.tmp 51) (.tmp 53) 22 rfl w.heap.size 9 _ 1 16 Try.underlying22 Try.info9 rfl (by omega) (.slice U own.length cu) own.length (scells own) rfl ?c0 (some ⟨w3.heap.size, 0, none⟩) 1 1 (scells [s]) rfl rfl ?c1 ?c2 ?c3 ?c4 ?c5 ?_)
        case c0 => exact Row.chg D3.out.row ((Chg.refl (M := NoM) w3).alloc _) (fun _ _ _ _ _ h => h)
        case c1 =>
          first
            | exact fun _ => ⟨_, rfl, news_blk (cs := [Value.string s]) (blk_new w3 (.cells #[.string s] 9))⟩
            | (intro x u hu; exact hu)
        case c2 => exact scells_one _
        case c3 => omega
        case c4 => omega
        case c5 => exact (C3.out.alloc _).size
        intro v4 w4 R
        obtain ⟨hD4, hC4⟩ := D3.out.app R
        have C4 := Lib.hid (hC4 w C3.out (Nat.le_refl _))
        obtain ⟨bt, hbt⟩ : ∃ bt, bt = own ++ [s] := ⟨_, rfl⟩
        rw [← hbt] at hD4
        obtain ⟨U4, cu4, rfl, _⟩ := hD4.slice
        have D4 := Lib.hid hD4
        have KL4 : Hid (bt.length = k + 1) := by show _ = _; have := KL.out; rw [hbt]; simp; omega
        have SZ4 : Hid (∀ x ∈ bt, x.size ≤ 2) := by
          intro x hx
          rw [hbt] at hx
          rcases List.mem_append.1 hx with h | h
          · exact SZ.out x h
          · simp at h; rw [h]; exact hs2
        have hne : (f0 + (k : Int) + 1 == f0 + (k : Int) + 1) = true := by simp
        clear R hD4 hC4 hbt D3 C3 D SZ KL hs2
        go_wp2_with fail
        exact ⟨⟨k + 1, bt, v3, U4, cu4, by omega, by omega, by go_num, rfl, D4, KL4, SZ4, C4⟩, by simp [intOf]; omega⟩
      · skip
        have KL := HK20
        go_wp2_with fail
        go_ret2
        exact ⟨_, own, v, U, cu, rfl, D.out, SZ.out, by have := KL.out; omega, C.out⟩
    · skip
      have KL := HK20
      go_wp2_with fail
      go_ret2
      exact ⟨_, own, v, U, cu, rfl, D.out, SZ.out, by have := KL.out; omega, C.out⟩
end Go.Proofs.Ytpfkgigfkonocaa
