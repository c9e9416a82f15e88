/- Contracts of the reference of layer 19 (concourseref19): All, Has, Same; few; Few. -/
import Derived.Test.YtbgiljhppnafoaaSeen2
import Derived.Test.YtbgiljhppnafoaaAround
namespace Go.Proofs.Ytbgiljhppnafoaa
set_option linter.unusedVariables false
set_option linter.unusedSimpArgs false
open Go.RowKit

def fewS (s : ByteArray) (m : Nat) : ByteArray := if m < s.size then s.extract 0 m else s
theorem fewS_size (s : ByteArray) (m : Nat) : (fewS s m).size ≤ m := by
  unfold fewS
  split
  · simp; omega
  · omega
set_option maxHeartbeats 400000 in
theorem few_any (s : ByteArray) (m : Nat) (w : World) (hs : s.size ≤ 9223372036854775807) (hm : m ≤ 1000) :
    Calls Try.prog 23 #[.string s, .int .i64 m] w fun e w' => e = .returned (.string (fewS s m)) ∧ w = w' := by
  by_cases h : m < s.size
  · have e : Hid (fewS s m = s.extract 0 m) := by unfold fewS; rw [if_pos h]; rfl
    have h' : (m : Int) < (s.size : Int) := by omega
    go_enter Try.func23, Try.ntmps23
    go_wp2
    go_ret
    exact ⟨by rw [e.out]; simp, rfl⟩
  · have e : Hid (fewS s m = s) := by unfold fewS; rw [if_neg h]; rfl
    have h' : ¬ (m : Int) < (s.size : Int) := by omega
    go_enter Try.func23, Try.ntmps23
    go_wp2
    go_ret
    exact ⟨by rw [e.out]; simp, rfl⟩
set_option maxHeartbeats 400000 in
theorem fewN_any (s : ByteArray) (n : Int) (w : World) (hs : s.size ≤ 9223372036854775807) :
    Calls Try.prog 19 #[.agg #[.string s, .int .i64 n]] w fun e w' => e = .returned (.agg #[.string (fewS s 2), .int .i64 n]) ∧ Chg NoM w w' := by
  have H := Lib.hid (fun w => few_any s 2 w hs (by omega))
  go_enter Try.func19, Try.ntmps19
  go_wp2_with fail
  refine (H.out _).mono ?_
  rintro e w' ⟨rfl, rfl⟩
  go_wp2_with fail
  refine bodyPost_ret (v := .agg #[.string (fewS s 2), .int .i64 n]) (by simp [results, Try.results19, go_sem]) rfl ⟨rfl, ?_⟩
  repeat (first | exact Chg.refl _ | apply Chg.alloc | refine Chg.setNew ?_ (by simp))

theorem refHas_yes (A : Option Addr) (c : Nat) (l : List Int) (n : Int) (w : World) (hl : RowO w 3 (.slice A l.length c) (imap l)) (hn : n ∈ l) :
    Calls Try.prog 20 #[.slice A l.length c, .int .i64 n] w fun e w' => e = .returned (.bool true) ∧ w = w' := by
  have HL := Lib.hid hl
  have lc : l.length ≤ 9223372036854775807 := by
    obtain ⟨_, _, he, h1, h2⟩ := hl.slice
    rw [imap_len] at h1
    simp only [maxLen] at h2
    omega
  have HN := Lib.hid hn
  clear hl hn
  go_enter Try.func20, Try.ntmps20
  go_wp2_with fail
  go_loop [5] (fun i => ∃ k : Nat, k ≤ l.length ∧ i = .int .i64 k ∧ Hid (∀ x ∈ l.take k, x ≠ n)) (fun i => l.length - (intOf i).toNat)
  case atStart => exact ⟨0, by omega, rfl, fun x hx => by simp at hx⟩
  case round =>
    obtain ⟨k, hk, rfl, HT⟩ := hrel
    by_cases hlt : k < l.length
    · obtain ⟨g, off, rfl, _, hc⟩ := HL.out.at (by rw [imap_len]; omega)
      have e0 := hc k _ (imap_get l k _ (List.getElem?_eq_getElem hlt))
      obtain ⟨x, hx⟩ : ∃ x, x = l[k] := ⟨_, rfl⟩
      rw [← hx] at e0
      have HX := Lib.hid hx
      have HM : Hid (x ∈ l) := by show x ∈ l; rw [hx]; exact List.getElem_mem hlt
      clear hx hc
      by_cases hxn : x = n
      · have HXN := Lib.hid hxn
        have hbq : (x == n) = true := by simp [hxn]
        clear hxn
        go_wp2_with fail
        go_ret
        exact ⟨rfl, rfl⟩
      · have HXN := Lib.hid hxn
        have hbq : (x == n) = false := by simp [hxn]
        clear hxn
        go_wp2_with fail
        go_round
        case rel =>
          refine ⟨k + 1, by omega, by go_num, fun y hy => ?_⟩
          rw [List.take_succ_eq_append_getElem hlt] at hy
          rcases List.mem_append.1 hy with h | h
          · exact HT.out y h
          · simp at h
            rw [h, ← HX.out]
            exact HXN.out
        case measure => simp [intOf]; omega
    · obtain rfl : l.length = k := by omega
      have h1 := HT.out
      rw [List.take_length] at h1
      have H1 := Lib.hid h1
      clear h1
      exact absurd rfl (H1.out n HN.out)
theorem refHas_no (A : Option Addr) (c : Nat) (l : List Int) (n : Int) (w : World) (hl : RowO w 3 (.slice A l.length c) (imap l)) (hn : n ∉ l) :
    Calls Try.prog 20 #[.slice A l.length c, .int .i64 n] w fun e w' => e = .returned (.bool false) ∧ w = w' := by
  have HL := Lib.hid hl
  have lc : l.length ≤ 9223372036854775807 := by
    obtain ⟨_, _, he, h1, h2⟩ := hl.slice
    rw [imap_len] at h1
    simp only [maxLen] at h2
    omega
  have HN := Lib.hid hn
  clear hl hn
  go_enter Try.func20, Try.ntmps20
  go_wp2_with fail
  go_loop [5] (fun i => ∃ k : Nat, k ≤ l.length ∧ i = .int .i64 k ∧ Hid (∀ x ∈ l.take k, x ≠ n)) (fun i => l.length - (intOf i).toNat)
  case atStart => exact ⟨0, by omega, rfl, fun x hx => by simp at hx⟩
  case round =>
    obtain ⟨k, hk, rfl, HT⟩ := hrel
    by_cases hlt : k < l.length
    · obtain ⟨g, off, rfl, _, hc⟩ := HL.out.at (by rw [imap_len]; omega)
      have e0 := hc k _ (imap_get l k _ (List.getElem?_eq_getElem hlt))
      obtain ⟨x, hx⟩ : ∃ x, x = l[k] := ⟨_, rfl⟩
      rw [← hx] at e0
      have HX := Lib.hid hx
      have HM : Hid (x ∈ l) := by show x ∈ l; rw [hx]; exact List.getElem_mem hlt
      clear hx hc
      by_cases hxn : x = n
      · have HXN := Lib.hid hxn
        have hbq : (x == n) = true := by simp [hxn]
        clear hxn
        exact absurd (HXN.out ▸ HM.out) HN.out
      · have HXN := Lib.hid hxn
        have hbq : (x == n) = false := by simp [hxn]
        clear hxn
        go_wp2_with fail
        go_round
        case rel =>
          refine ⟨k + 1, by omega, by go_num, fun y hy => ?_⟩
          rw [List.take_succ_eq_append_getElem hlt] at hy
          rcases List.mem_append.1 hy with h | h
          · exact HT.out y h
          · simp at h
            rw [h, ← HX.out]
            exact HXN.out
        case measure => simp [intOf]; omega
    · obtain rfl : l.length = k := by omega
      have h1 := HT.out
      rw [List.take_length] at h1
      have H1 := Lib.hid h1
      clear h1
      go_wp2_with fail
      go_ret
      exact ⟨rfl, rfl⟩
/-- Lists that are the same. -/
theorem same_true (A A2 : Option Addr) (c c2 : Nat) (l : List Int) (w : World) (h1 : RowO w 3 (.slice A l.length c) (imap l)) (h2 : RowO w 3 (.slice A2 l.length c2) (imap l)) (hn : l.length ≤ 1000) :
    Calls Try.prog 16 #[.slice A l.length c, .slice A2 l.length c2] w fun e w' => e = .returned (.bool true) ∧ Chg NoM w w' := by
  have H1 := Lib.hid h1
  have H2 := Lib.hid h2
  clear h1 h2
  go_enter Try.func16, Try.ntmps16
  go_wp2_with fail
  go_loopw [5] (fun i wr => ∃ k : Nat, k ≤ l.length ∧ i = .int .i64 k ∧ Hid (Chg NoM w wr)) (fun i _ => l.length - (intOf i).toNat)
  case atStart => exact ⟨0, by omega, rfl, Chg.refl w⟩
  case round =>
    obtain ⟨k, hk, rfl, C⟩ := hrel
    by_cases hlt : k < l.length
    · obtain ⟨g, off, rfl, _, hc⟩ := H1.out.at (by rw [imap_len]; omega)
      obtain ⟨g2, off2, rfl, _, hc2⟩ := H2.out.at (by rw [imap_len]; omega)
      have e0 := C.out.cellNo (hc k _ (imap_get l k _ (List.getElem?_eq_getElem hlt)))
      have e1 := C.out.cellNo (hc2 k _ (imap_get l k _ (List.getElem?_eq_getElem hlt)))
      obtain ⟨x, hx⟩ : ∃ x, x = l[k] := ⟨_, rfl⟩
      rw [← hx] at e0 e1
      clear hx hc hc2
      have i0 : (0 : Int) ≤ (k : Int) := by omega
      have i1 : (k : Int) < (l.length : Int) := by omega
      go_wp2_with fail
      go_quiet (fail)
      go_wp2_with fail
      exact ⟨⟨k + 1, by omega, by go_num, C.out.drewN _⟩, by simp [intOf]; omega⟩
    · go_wp2_with fail
      go_ret
      exact ⟨rfl, C.out⟩
end Go.Proofs.Ytbgiljhppnafoaa
