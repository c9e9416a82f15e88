/- Contracts of layer 5 in the delta seat: New, Add, Next, At, Most. -/
import Derived.Test.YtpfkgigfkonocaaAround
namespace Go.Proofs.Ytpfkgigfkonocaa
set_option linter.unusedVariables false
set_option linter.unusedSimpArgs false
open Go.RowKit

def CtrAt (w : World) (nb : Nat) (n most : Int) : Prop := w.heap[nb]? = some (.cells #[.int .i64 n, .int .i64 most] 70 (0, 0))

set_option maxHeartbeats 400000 in
theorem cnew_yes (from_ most : Int) (w : World) (h0 : 0 ≤ from_) (h1 : from_ ≤ most) (h2 : 1 ≤ most) (h3 : most ≤ 1099511627776) :
    Calls Try.prog 24 #[.int .i64 from_, .int .i64 most] w fun e w' => e = .returned (.tuple #[.pointer (some ⟨w.heap.size, 0, none⟩), .int .i64 0]) ∧ CtrAt w' w.heap.size from_ most ∧ w'.heap.size = w.heap.size + 1 ∧ Chg NoM w w' := by
  have b := blk_new w (.cells #[.int .i64 0, .int .i64 most] 70)
  have hl := run_call_store (P := Try.prog) (y := from_) (k := .i64) Try.func33 (by kernel_rfl) (by kernel_rfl) (by kernel_rfl) (by kernel_rfl) (blk_cell b 0) (blk_free b 0)
  have B := Lib.hid b
  clear b
  go_enter Try.func24, Try.ntmps24
  go_wp2
  go_end0
  go_wp2
  go_ret2
  exact ⟨rfl, blk_new w _, by simp, (Chg.refl w).alloc _⟩

set_option maxHeartbeats 400000 in
theorem cnew_no (from_ most : Int) (w : World) (h : most < 1 ∨ 1099511627776 < most ∨ from_ < 0 ∨ most < from_) :
    Calls Try.prog 24 #[.int .i64 from_, .int .i64 most] w fun e w' => e = .returned (.tuple #[.pointer none, .int .i64 1]) ∧ w = w' := by
  by_cases h1 : most < 1
  · go_enter Try.func24, Try.ntmps24
    go_wp2
    go_ret2
    exact ⟨rfl, rfl⟩
  · by_cases h2 : 1099511627776 < most
    · go_enter Try.func24, Try.ntmps24
      go_wp2
      go_ret2
      exact ⟨rfl, rfl⟩
    · by_cases h3 : from_ < 0
      · go_enter Try.func24, Try.ntmps24
        go_wp2
        go_ret2
        exact ⟨rfl, rfl⟩
      · have h4 : most < from_ := by omega
        go_enter Try.func24, Try.ntmps24
        go_wp2
        go_ret2
        exact ⟨rfl, rfl⟩

theorem cat_any (nb : Nat) (n most : Int) (w : World) (h : CtrAt w nb n most) : Calls Try.prog 28 #[.pointer (some ⟨nb, 0, none⟩)] w fun e w' => e = .returned (.int .i64 n) ∧ w = w' := by
  have hl := run_call_load (P := Try.prog) Try.func35 (by kernel_rfl) (by kernel_rfl) (by kernel_rfl) .i64 (by kernel_rfl) (blk_cell h 0)
  clear h
  go_enter Try.func28, Try.ntmps28
  go_wp2
  go_ret
  exact ⟨rfl, rfl⟩
theorem cmost_any (nb : Nat) (n most : Int) (w : World) (h : CtrAt w nb n most) : Calls Try.prog 29 #[.pointer (some ⟨nb, 0, none⟩)] w fun e w' => e = .returned (.int .i64 most) ∧ w = w' := by
  have k1 := blk_cell h 1
  clear h
  go_enter Try.func29, Try.ntmps29
  go_wp2
  go_ret
  exact ⟨rfl, rfl⟩

/-- What Add tells, and where the counter stands behind it. -/
def addE (n at_ most : Int) : Int := if n < 0 then 1 else if 0 < n ∧ at_ = most then 11 else 0
def addN (n at_ most : Int) : Int := if n < 0 then at_ else at_ + min n (most - at_)
def addR (n at_ most : Int) : Int := if addE n at_ most = 0 then addN n at_ most else 0
theorem CtrAt.same {w : World} {nb : Nat} {n most : Int} (h : CtrAt w nb n most) : CtrAt w nb n most ∧ Chg (BoxM nb 70) w w := ⟨h, Chg.refl w⟩

set_option maxHeartbeats 1000000 in
theorem cadd_any (n : Int) (nb : Nat) (at_ most : Int) (w : World) (h : CtrAt w nb at_ most) (h0 : 0 ≤ at_) (h1 : at_ ≤ most) (h3 : most ≤ 1099511627776) :
    Calls Try.prog 31 #[.pointer (some ⟨nb, 0, none⟩), .int .i64 n] w fun e w' => e = .returned (.tuple #[.int .i64 (addR n at_ most), .int .i64 (addE n at_ most)]) ∧ CtrAt w' nb (addN n at_ most) most ∧ Chg (BoxM nb 70) w w' ∧ w'.heap.size = w.heap.size := by
  have H := Lib.hid h
  have hl := run_call_load (P := Try.prog) Try.func35 (by kernel_rfl) (by kernel_rfl) (by kernel_rfl) .i64 (by kernel_rfl) (blk_cell h 0)
  have k0 := blk_cell h 0
  have k1 := blk_cell h 1
  clear h
  by_cases hn : n < 0
  · have E : Hid (addE n at_ most = 1) := by unfold addE; rw [if_pos hn]; rfl
    have R : Hid (addR n at_ most = 0) := by unfold addR; rw [E.out]; rfl
    have N : Hid (addN n at_ most = at_) := by unfold addN; rw [if_pos hn]; rfl
    go_enter Try.func31, Try.ntmps31
    go_wp2
    go_ret2
    rw [E.out, R.out, N.out]
    exact ⟨rfl, H.out, Chg.refl w, rfl⟩
  · go_enter Try.func31, Try.ntmps31
    go_wp2_with fail
    go_loopw [6] (fun i wr => wr = w) (fun i _ => 0)
    case atStart => rfl
    case round =>
      subst hrel
      have n0 : 0 ≤ n := by omega
      by_cases hz : n = 0
      · subst hz
        have E : Hid (addE 0 at_ most = 0) := by unfold addE; rw [if_neg (by omega), if_neg (by omega)]; rfl
        have N : Hid (addN 0 at_ most = at_) := by unfold addN; rw [if_neg (by omega), Int.min_eq_left (by omega), Int.add_zero]; rfl
        have R : Hid (addR 0 at_ most = at_) := by unfold addR; rw [E.out, if_pos rfl, N.out]; rfl
        by_cases hlt : at_ < most
        · have hs : (0 : Int) < most - at_ := by omega
          go_wp2
          go_ret2
          rw [E.out, R.out, N.out]
          exact ⟨rfl, H.out, Chg.refl wr, rfl⟩
        · have he : most = at_ := by omega
          have hs : ¬ (0 : Int) < most - at_ := by omega
          subst he
          go_wp2
          go_ret2
          rw [E.out, R.out, N.out]
          exact ⟨rfl, H.out, Chg.refl wr, rfl⟩
      · have n1 : 0 < n := by omega
        have n2 : (n == 0) = false := by simp; omega
        by_cases he : at_ = most
        · subst he
          have E : Hid (addE n at_ at_ = 11) := by unfold addE; rw [if_neg (by omega), if_pos ⟨n1, rfl⟩]; rfl
          have N : Hid (addN n at_ at_ = at_) := by unfold addN; rw [if_neg (by omega), Int.min_eq_right (by omega)]; show _ = _; omega
          have R : Hid (addR n at_ at_ = 0) := by unfold addR; rw [E.out]; rfl
          go_wp2
          go_ret2
          rw [E.out, R.out, N.out]
          exact ⟨rfl, H.out, Chg.refl wr, rfl⟩
        · have e0 : (at_ == most) = false := by simp; exact he
          have E : Hid (addE n at_ most = 0) := by unfold addE; rw [if_neg (by omega), if_neg (by omega)]; rfl
          have hc := fun y => run_call_cas_hit (P := Try.prog) Try.func36 (by kernel_rfl) (by kernel_rfl) (by kernel_rfl) .i64 (by kernel_rfl) (y := y) (blk_cell H.out 0) (blk_free H.out 0)
          by_cases hlt : n < most - at_
          · have N : Hid (addN n at_ most = at_ + n) := by unfold addN; rw [if_neg (by omega), Int.min_eq_left (by omega)]; rfl
            have R : Hid (addR n at_ most = at_ + n) := by unfold addR; rw [E.out, if_pos rfl, N.out]; rfl
            go_wp2
            go_ret2
            rw [E.out, R.out, N.out]
            exact ⟨rfl, blk_set H.out 0 _, (Chg.refl wr).setBox H.out, by simp⟩
          · have N : Hid (addN n at_ most = most) := by unfold addN; rw [if_neg (by omega), Int.min_eq_right (by omega)]; show _ = _; omega
            have R : Hid (addR n at_ most = most) := by unfold addR; rw [E.out, if_pos rfl, N.out]; rfl
            go_wp2
            go_ret2
            rw [E.out, R.out, N.out]
            exact ⟨rfl, blk_set H.out 0 _, (Chg.refl wr).setBox H.out, by simp⟩

set_option maxHeartbeats 400000 in
theorem cnext_any (nb : Nat) (at_ most : Int) (w : World) (h : CtrAt w nb at_ most) (h0 : 0 ≤ at_) (h1 : at_ ≤ most) (h3 : most ≤ 1099511627776) :
    Calls Try.prog 25 #[.pointer (some ⟨nb, 0, none⟩)] w fun e w' => e = .returned (.tuple #[.int .i64 (addR 1 at_ most), .int .i64 (addE 1 at_ most)]) ∧ CtrAt w' nb (addN 1 at_ most) most ∧ Chg (BoxM nb 70) w w' ∧ w'.heap.size = w.heap.size := by
  have A := Lib.hid (cadd_any 1 nb at_ most w h h0 h1 h3)
  clear h
  go_enter Try.func25, Try.ntmps25
  go_wp2_with fail
  refine A.out.mono ?_
  rintro e w1 ⟨rfl, r⟩
  go_wp2
  go_ret2
  exact ⟨rfl, r⟩

end Go.Proofs.Ytpfkgigfkonocaa
