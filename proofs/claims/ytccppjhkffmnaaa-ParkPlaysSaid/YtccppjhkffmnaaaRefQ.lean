/- Put and the reference's Put, in one table; a park and the reference's park, side by side. -/
import Derived.Test.YtccppjhkffmnaaaRefP
namespace Go.Proofs.Ytccppjhkffmnaaa
set_option linter.unusedVariables false
set_option linter.unusedSimpArgs false
open Go.RowKit

def putL (most : Int) (l : List Edu) (e : Edu) : List Edu := if e ∈ l then l else if (l.length : Int) < most then l ++ [e] else (l ++ [e]).drop 1
def putG (most : Int) (l : List Edu) (e : Edu) : Bool := if e ∈ l then false else if (l.length : Int) < most then false else true
def putZ (most : Int) (l : List Edu) (e : Edu) : Edu := if e ∈ l then Edu.zero else if (l.length : Int) < most then Edu.zero else ((l ++ [e])[0]?).getD Edu.zero
def putC (most lost : Int) (l : List Edu) (e : Edu) : Int := if putG most l e = true then lost + 1 else lost
theorem putL_len {most : Int} {l : List Edu} {e : Edu} (h : (l.length : Int) ≤ most) : ((putL most l e).length : Int) ≤ most := by
  unfold putL
  split
  · exact h
  · split
    · simp; omega
    · simp; omega
theorem putC_bd (most lost : Int) (l : List Edu) (e : Edu) : lost ≤ putC most lost l e ∧ putC most lost l e ≤ lost + 1 := by
  unfold putC
  split <;> omega
theorem put_eq (base pb : Nat) (most lost : Int) (l : List Edu) (v : Value) (e : Edu) (w : World) (hp : ParkAt w base pb most l lost v) (hl : (l.length : Int) ≤ most) (hm : most ≤ 1000) (h0 : 0 ≤ lost) (h1 : lost ≤ 1000) :
    Calls Try.prog 11 #[.pointer (some ⟨pb, 0, none⟩), e.agg] w fun en w' => en = .returned (.tuple #[(putZ most l e).agg, .bool (putG most l e)]) ∧ ∃ v', ParkAt w' base pb most (putL most l e) (putC most lost l e) v' ∧ OwnG w v v' ∧ Chg (ParkX pb v) w w' := by
  by_cases he : e ∈ l
  · have e1 : putL most l e = l := if_pos he
    have e2 : putG most l e = false := if_pos he
    have e3 : putZ most l e = Edu.zero := if_pos he
    have e4 : putC most lost l e = lost := by unfold putC; rw [e2]; rfl
    rw [e1, e2, e3, e4]
    refine (put_has base pb most lost l v e w hp he).mono ?_
    rintro en w' ⟨rfl, hc⟩
    exact ⟨rfl, v, ⟨hp.1, hc.blkNo hp.2.1, hp.2.2.chgNo hc⟩, fun g hg => .inl hg, Chg.ofNo hc⟩
  · by_cases hlt : (l.length : Int) < most
    · have e1 : putL most l e = l ++ [e] := by unfold putL; rw [if_neg he, if_pos hlt]
      have e2 : putG most l e = false := by unfold putG; rw [if_neg he, if_pos hlt]
      have e3 : putZ most l e = Edu.zero := by unfold putZ; rw [if_neg he, if_pos hlt]
      have e4 : putC most lost l e = lost := by unfold putC; rw [e2]; rfl
      rw [e1, e2, e3, e4]
      refine (put_room base pb most lost l v e w hp he hlt hm).mono ?_
      rintro en w' ⟨rfl, r⟩
      exact ⟨rfl, r⟩
    · obtain ⟨f, hf⟩ : ∃ f, (l ++ [e])[0]? = some f := ⟨_, List.getElem?_eq_getElem (by simp)⟩
      have e1 : putL most l e = (l ++ [e]).drop 1 := by unfold putL; rw [if_neg he, if_neg hlt]
      have e2 : putG most l e = true := by unfold putG; rw [if_neg he, if_neg hlt]
      have e3 : putZ most l e = f := by unfold putZ; rw [if_neg he, if_neg hlt, hf]; rfl
      have e4 : putC most lost l e = lost + 1 := by unfold putC; rw [e2]; rfl
      rw [e1, e2, e3, e4]
      refine (put_full base pb most lost l v e f w hp he (by omega) (by omega) hf h0 (by omega)).mono ?_
      rintro en w' ⟨rfl, r⟩
      exact ⟨rfl, r⟩
/-- Where a list of the reference's may lie. -/
def FarO (w w' : World) (A A' : Option Addr) : Prop := ∀ g off x, A' = some ⟨g, off, x⟩ → A' = A ∨ (w.heap.size ≤ g ∧ g < w'.heap.size)
theorem rput_eq (A : Option Addr) (c : Nat) (most lost : Int) (l : List Edu) (e : Edu) (w : World) (hl : EO w A l) (hn : (l.length : Int) ≤ most) (h1 : 1 ≤ most) (hm : most ≤ 1000) (h0 : 0 ≤ lost) (hl1 : lost ≤ 1000) :
    Calls Try.prog 16 #[.agg #[.int .i64 most, .slice A l.length c, .int .i64 lost], e.agg] w fun en w' => ∃ A' c', en = .returned (.tuple #[.agg #[.int .i64 most, .slice A' (putL most l e).length c', .int .i64 (putC most lost l e)], (putZ most l e).agg, .bool (putG most l e)]) ∧ EO w' A' (putL most l e) ∧ FarO w w' A A' ∧ Chg NoM w w' := by
  by_cases he : e ∈ l
  · have e1 : putL most l e = l := if_pos he
    have e2 : putG most l e = false := if_pos he
    have e3 : putZ most l e = Edu.zero := if_pos he
    have e4 : putC most lost l e = lost := by unfold putC; rw [e2]; rfl
    rw [e1, e2, e3, e4]
    refine (rput_has A c most lost l e w hl (by omega) he).mono ?_
    rintro en w' ⟨rfl, hc⟩
    exact ⟨A, c, rfl, hl.chgNo hc, fun _ _ _ _ => .inl rfl, hc⟩
  · by_cases hlt : (l.length : Int) < most
    · have e1 : putL most l e = l ++ [e] := by unfold putL; rw [if_neg he, if_pos hlt]
      have e2 : putG most l e = false := by unfold putG; rw [if_neg he, if_pos hlt]
      have e3 : putZ most l e = Edu.zero := by unfold putZ; rw [if_neg he, if_pos hlt]
      have e4 : putC most lost l e = lost := by unfold putC; rw [e2]; rfl
      rw [e1, e2, e3, e4, List.length_append, List.length_singleton]
      refine (rput_room A c most lost l e w hl (by omega) he hlt).mono ?_
      rintro en w' ⟨A', c', rfl, r1, r2, r3⟩
      exact ⟨A', c', rfl, r1, fun g off x h => .inr (r2 g off x h), r3⟩
    · obtain ⟨f, hf⟩ : ∃ f, (l ++ [e])[0]? = some f := ⟨_, List.getElem?_eq_getElem (by simp)⟩
      have e1 : putL most l e = (l ++ [e]).drop 1 := by unfold putL; rw [if_neg he, if_neg hlt]
      have e2 : putG most l e = true := by unfold putG; rw [if_neg he, if_neg hlt]
      have e3 : putZ most l e = f := by unfold putZ; rw [if_neg he, if_neg hlt, hf]; rfl
      have e4 : putC most lost l e = lost + 1 := by unfold putC; rw [e2]; rfl
      rw [e1, e2, e3, e4, show ((l ++ [e]).drop 1).length = l.length by simp]
      refine (rput_full A c most lost l e f w hl (by omega) he (by omega) h1 hf h0 hl1).mono ?_
      rintro en w' ⟨A', c', rfl, r1, r2, r3⟩
      exact ⟨A', c', rfl, r1, fun g off x h => .inr (r2 g off x h), r3⟩

/-- A park and the reference's list, side by side. -/
structure Pair (w : World) (base pb : Nat) (most : Int) (l : List Edu) (lost : Int) (v : Value) (A : Option Addr) : Prop where
  park : ParkAt w base pb most l lost v
  ref : EO w A l
  sep : ∀ g off x, A = some ⟨g, off, x⟩ → g < w.heap.size ∧ g ≠ pb ∧ v.ownBlock ≠ some g
variable {w w' : World} {base pb : Nat} {most lost most' lost' : Int} {l l' : List Edu} {v v' : Value} {A A' : Option Addr}
theorem Pair.chgNo (h : Pair w base pb most l lost v A) (hc : Chg NoM w w') : Pair w' base pb most l lost v A :=
  ⟨h.park.chgNo hc, h.ref.chgNo hc, fun g off x hA => ⟨Nat.lt_of_lt_of_le (h.sep g off x hA).1 hc.size, (h.sep g off x hA).2⟩⟩
/-- Behind the reference's step: its list is new, the park's still the old one. -/
structure Half (w : World) (base pb : Nat) (most : Int) (l : List Edu) (lost : Int) (v : Value) (A : Option Addr) (l' : List Edu) : Prop where
  park : ParkAt w base pb most l lost v
  ref : EO w A l'
  sep : ∀ g off x, A = some ⟨g, off, x⟩ → g < w.heap.size ∧ g ≠ pb ∧ v.ownBlock ≠ some g
theorem Half.chgNo (h : Half w base pb most l lost v A l') (hc : Chg NoM w w') : Half w' base pb most l lost v A l' :=
  ⟨h.park.chgNo hc, h.ref.chgNo hc, fun g off x hA => ⟨Nat.lt_of_lt_of_le (h.sep g off x hA).1 hc.size, (h.sep g off x hA).2⟩⟩
theorem Pair.half (h : Pair w base pb most l lost v A) (hr : EO w' A' l') (hf : FarO w w' A A') (hc : Chg NoM w w') : Half w' base pb most l lost v A' l' := by
  refine ⟨h.park.chgNo hc, hr, fun g off x hA => ?_⟩
  rcases hf g off x hA with e | ⟨h1, h2⟩
  · have := h.sep g off x (e ▸ hA)
    exact ⟨Nat.lt_of_lt_of_le this.1 hc.size, this.2⟩
  · refine ⟨h2, ?_, fun h' => ?_⟩
    · have := lt_of_blk h.park.2.1; omega
    · have := Row.own_lt h.park.2.2 h'; omega
theorem Half.pair (h : Half w base pb most l lost v A l') (hp : ParkAt w' base pb most l' lost' v') (ho : OwnG w v v') (hc : Chg (ParkX pb v) w w') : Pair w' base pb most l' lost' v' A := by
  refine ⟨hp, h.ref.chg hc (fun g off o hA _ hx => ?_), fun g off x hA => ?_⟩
  · have := h.sep g off none hA
    rcases hx with ⟨rfl, _⟩ | hx
    · exact this.2.1 rfl
    · exact this.2.2 hx.own
  · have := h.sep g off x hA
    refine ⟨Nat.lt_of_lt_of_le this.1 hc.size, this.2.1, fun h' => ?_⟩
    rcases ho g h' with h'' | h''
    · exact this.2.2 h''
    · omega
set_option maxHeartbeats 2000000 in
/-- Equal lists are the same. -/
theorem same_eo (A A2 : Option Addr) (c c2 : Nat) (l : List Edu) (w : World) (h1 : EO w A l) (h2 : EO w A2 l) (lc : l.length ≤ 1000) :
    Calls Try.prog 15 #[.slice A l.length c, .slice A2 l.length c2] w fun e w' => e = .returned (.bool true) ∧ Chg NoM w w' := by
  have H1 := Lib.hid h1
  have H2 := Lib.hid h2
  have hg := guard32
  clear h1 h2
  go_enter Try.func15, Try.ntmps15
  go_wp2_with fail
  go_loopw [5] (fun i wr => ∃ k : Nat, k ≤ l.length ∧ i = .int .i64 k ∧ Hid (Chg NoM w wr)) (fun i _ => l.length - (intOf i).toNat)
  case atStart => exact ⟨0, by omega, rfl, Chg.refl w⟩
  case round =>
    obtain ⟨k, hk, rfl, C⟩ := hrel
    by_cases hlt : k < l.length
    · obtain ⟨p, hp⟩ : ∃ p, l[k]? = some p := ⟨_, List.getElem?_eq_getElem hlt⟩
      obtain ⟨g, off, rfl, hc⟩ := (H1.out.chgNo C.out).at k p hp
      obtain ⟨g2, off2, rfl, hc2⟩ := (H2.out.chgNo C.out).at k p hp
      have x_0 := hc 0 (by omega)
      have x_1 := hc 1 (by omega)
      have x_2 := hc 2 (by omega)
      have x_3 := hc 3 (by omega)
      have x_4 := hc 4 (by omega)
      have x_5 := hc 5 (by omega)
      have x_6 := hc 6 (by omega)
      have x_7 := hc 7 (by omega)
      have x_8 := hc 8 (by omega)
      have x_9 := hc 9 (by omega)
      have x_10 := hc 10 (by omega)
      simp only [Edu.cells, List.getElem?_cons_zero, List.getElem?_cons_succ, List.getElem?_toArray, Nat.add_zero] at x_0 x_1 x_2 x_3 x_4 x_5 x_6 x_7 x_8 x_9 x_10
      have y_0 := hc2 0 (by omega)
      have y_1 := hc2 1 (by omega)
      have y_2 := hc2 2 (by omega)
      have y_3 := hc2 3 (by omega)
      have y_4 := hc2 4 (by omega)
      have y_5 := hc2 5 (by omega)
      have y_6 := hc2 6 (by omega)
      have y_7 := hc2 7 (by omega)
      have y_8 := hc2 8 (by omega)
      have y_9 := hc2 9 (by omega)
      have y_10 := hc2 10 (by omega)
      simp only [Edu.cells, List.getElem?_cons_zero, List.getElem?_cons_succ, List.getElem?_toArray, Nat.add_zero] at y_0 y_1 y_2 y_3 y_4 y_5 y_6 y_7 y_8 y_9 y_10
      have hq := neqE p p wr.drew
      have hq0 := neqE p p wr
      rw [decide_eq_true rfl] at hq hq0
      simp only [Bool.not_true] at hq hq0
      unfold Edu.agg at hq hq0
      have i0 : (0 : Int) ≤ (k : Int) := by omega
      have i1 : (k : Int) < (l.length : Int) := by omega
      clear hc hc2 hp
      go_wp2_with fail
      go_quiet (fail)
      go_wp2_with fail
      exact ⟨⟨k + 1, by omega, by go_num, C.out.drewN _⟩, by simp [intOf]; omega⟩
    · go_wp2_with fail
      go_ret
      exact ⟨rfl, C.out⟩
end Go.Proofs.Ytccppjhkffmnaaa
