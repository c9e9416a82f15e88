/- lives (the layer's example) returns true; New. -/
import Derived.Test.YtmkjonfdeolihaaNet3
namespace Go.Proofs.Ytmkjonfdeolihaa
set_option linter.unusedVariables false
set_option linter.unusedSimpArgs false
open Go.RowKit

set_option maxHeartbeats 400000 in
theorem new_yes (n : Int) (w : World) (h1 : 1 ≤ n) (h2 : n ≤ 1000) :
    Calls Try.prog 9 #[.int .i64 n] w fun e w' => e = .returned (.tuple #[.pointer (some ⟨w.heap.size, 0, none⟩), .int .i64 0]) ∧ NetAt w' w.heap.size w.heap.size n [] 0 (.slice none 0 0) ∧ w'.heap.size = w.heap.size + 1 ∧ Chg NoM w w' := by
  go_enter Try.func9, Try.ntmps9
  go_wp2
  go_ret2
  exact ⟨rfl, ⟨Nat.le_refl _, blk_new w _, Row.nil _ _ _ _, fun p hp => by cases hp⟩, by simp, (Chg.refl w).alloc _⟩

set_option maxHeartbeats 400000 in
theorem new_no (n : Int) (w : World) (h : n < 1 ∨ 1000 < n) :
    Calls Try.prog 9 #[.int .i64 n] w fun e w' => e = .returned (.tuple #[.pointer none, .int .i64 1]) ∧ w = w' := by
  rcases h with h | h
  · go_enter Try.func9, Try.ntmps9
    go_wp2
    go_ret2
    exact ⟨rfl, rfl⟩
  · have h' : ¬ n < 1 := by omega
    go_enter Try.func9, Try.ntmps9
    go_wp2
    go_ret2
    exact ⟨rfl, rfl⟩

def aroundI (n m : Int) : Int := if n < 0 then (-(n + 1)) % m else n % m
theorem aroundI_bd (n m : Int) (hm : 1 ≤ m) : 0 ≤ aroundI n m ∧ aroundI n m < m := by
  unfold aroundI
  split
  · exact ⟨Int.emod_nonneg _ (by omega), Int.emod_lt_of_pos _ (by omega)⟩
  · exact ⟨Int.emod_nonneg _ (by omega), Int.emod_lt_of_pos _ (by omega)⟩

set_option maxHeartbeats 400000 in
theorem around_any (n m : Int) (w : World) (h1 : -9223372036854775808 ≤ n) (h2 : n ≤ 9223372036854775807) (hm : 1 ≤ m) (hm2 : m ≤ 9223372036854775807) :
    Calls Try.prog 8 #[.int .i64 n, .int .i64 m] w fun e w' => e = .returned (.int .i64 (aroundI n m)) ∧ w = w' := by
  by_cases h : n < 0
  · have e : Hid (aroundI n m = (-(n + 1)).tmod m) := by
      unfold aroundI
      rw [if_pos h, Int.tmod_eq_emod_of_nonneg (by omega)]
      rfl
    go_enter Try.func8, Try.ntmps8
    go_wp2
    go_ret
    exact ⟨by rw [e.out]; simp, rfl⟩
  · have e : Hid (aroundI n m = n % m) := by
      unfold aroundI
      rw [if_neg h]
      rfl
    go_enter Try.func8, Try.ntmps8
    go_wp2
    go_ret
    exact ⟨by rw [e.out]; simp, rfl⟩

theorem NetM_new {base : Nat} : ∀ (i : Nat) (o : Obj), NetM base i o → base ≤ i := fun _ _ h => h.1

set_option maxHeartbeats 1000000 in
theorem lives_true (w : World) : Calls Try.prog 10 #[] w fun e w' => e = .returned (.bool true) ∧ Chg NoM w w' := by
  go_enter Try.func10, Try.ntmps10
  go_wp2_with fail
  refine (new_yes 5 _ (by omega) (by omega)).mono ?_
  rintro e w1 ⟨rfl, hn1, hs1, hc1⟩
  have N1 := Lib.hid hn1
  have C1 := Lib.hid hc1
  have S1 := Lib.hid hs1
  clear hn1 hc1 hs1
  go_wp2_with (refine wpList_conv_bytes rfl (.tmp 17) 34 rfl 5 Try.underlying34 Try.underlying5 w1.heap.size 1 1 #[.int .u8 97] rfl (blk_new w1 _) ?_)
  intro x1 hb1 hx1
  have HB1 := Lib.hid hb1
  have X1 : Hid (Chg NoM w1 x1) := ((Chg.refl w1).alloc _).thenNew hx1 (Nat.le_refl _)
  clear hb1 hx1
  go_wp2_with fail
  refine (put_yes w.heap.size w.heap.size 5 0 [] _ ⟨#[115]⟩ _ _ [97] _ (N1.out.chgNo X1.out) (bytes_blk HB1.out (by simp)) (by simp) (by simp) (by omega)).mono ?_
  rintro e w2 ⟨rfl, bb2, v2, _, hn2, hc2⟩
  have N2 := Lib.hid hn2
  have C2 : Hid (Chg NoM w w2) := (C1.out.trans X1.out).thenAll hc2 (NetX.new N1.out)
  clear hn2 hc2
  go_wp2_with (refine wpList_conv_bytes rfl (.tmp 22) 34 rfl 5 Try.underlying34 Try.underlying5 w2.heap.size 1 1 #[.int .u8 98] rfl (blk_new w2 _) ?_)
  intro x2 hb2 hx2
  have HB2 := Lib.hid hb2
  have X2 : Hid (Chg NoM w2 x2) := ((Chg.refl w2).alloc _).thenNew hx2 (Nat.le_refl _)
  clear hb2 hx2
  go_wp2_with fail
  refine (put_yes w.heap.size w.heap.size 5 0 [⟨⟨#[115]⟩, [97], bb2⟩] _ ⟨#[115]⟩ _ _ [98] _ (N2.out.chgNo X2.out) (bytes_blk HB2.out (by simp)) (by simp) (by simp) (by omega)).mono ?_
  rintro e w3 ⟨rfl, bb3, v3, _, hn3, hc3⟩
  have N3 := Lib.hid hn3
  have C3 : Hid (Chg NoM w w3) := (C2.out.trans X2.out).thenAll hc3 (NetX.new N2.out)
  clear hn3 hc3
  go_wp2_with fail
  refine (move_yes w.heap.size w.heap.size 5 0 0 [⟨⟨#[115]⟩, [97], bb2⟩, ⟨⟨#[115]⟩, [98], bb3⟩] _ ⟨⟨#[115]⟩, [97], bb2⟩ _ N3.out rfl (by simp) C3.out.size).mono ?_
  rintro e w4 ⟨rfl, ⟨v4, hn4⟩, hc4⟩
  have N4 := Lib.hid hn4
  have C4 : Hid (Chg NoM w w4) := C3.out.thenAll hc4 (NetX.new N3.out)
  clear hn4 hc4
  go_wp2_with fail
  refine (take_yes w.heap.size w.heap.size 5 0 0 [⟨⟨#[115]⟩, [98], bb3⟩, ⟨⟨#[115]⟩, [97], bb2⟩] _ ⟨⟨#[115]⟩, [98], bb3⟩ _ N4.out rfl (by simp) C4.out.size).mono ?_
  rintro e w5 ⟨rfl, ⟨v5, hn5, _⟩, hc5⟩
  have N5 := Lib.hid hn5
  have C5 : Hid (Chg NoM w w5) := C4.out.thenAll hc5 (NetX.new N4.out)
  have B5 : Hid (w5.heap[bb3]? = some (.cells (bvals [98]).toArray 5 (0, 0))) := hc5.block _ _ (N4.out.2.2.2 ⟨⟨#[115]⟩, [98], bb3⟩ (by simp)) (NetX.ne N4.out (N4.out.2.2.2 ⟨⟨#[115]⟩, [98], bb3⟩ (by simp)) (by decide) (by decide))
  clear hn5 hc5
  have hcs := run_string_bytes (P := Try.prog) (w5.alloc (.cells #[.string ⟨#[115]⟩, .slice (some ⟨bb3, 0, none⟩) 1 1] 36)) 34 9 5 Try.underlying34 Try.underlying5 Try.underlying9 (some ⟨bb3, 0, none⟩) [98] 1 (bytes_blk (blk_alloc B5.out _) (by simp))
  simp only [List.length_cons, List.length_nil, Nat.zero_add] at hcs
  go_wp2_with (go_at_call 14; refine (len_any w.heap.size w.heap.size 5 0 [⟨⟨#[115]⟩, [97], bb2⟩] v5 _ (N5.out.chgNo ((Chg.refl w5).alloc _))).mono ?_; rintro e w6 ⟨rfl, rfl⟩)
  go_ret
  exact ⟨rfl, C5.out.alloc _⟩
end Go.Proofs.Ytmkjonfdeolihaa
