/- Rows of EDUs; contracts of slices.Index, Contains, Clone at EDUs. -/
import Derived.Test.YtccppjhkffmnaaaEdu
import Derived.WalkSpells
namespace Go.Proofs.Ytccppjhkffmnaaa
set_option linter.unusedVariables false
set_option linter.unusedSimpArgs false
open Go.RowKit

theorem Try.info32 : (Try.prog.info? 32).map (fun i => (i.zero, i.size, i.bytes)) = some (some (.agg #[.int .i64 0, .string .empty, .string .empty, .string .empty, .string .empty, .bool false, .bool false, .int .i64 0, .int .i64 0, .int .i64 0, .int .i64 0]), 11, 112) := by kernel_rfl
def ecells (l : List Edu) : List Value := l.flatMap Edu.cells
theorem ecells_append (l m : List Edu) : ecells (l ++ m) = ecells l ++ ecells m := by simp [ecells]
theorem ecells_one (p : Edu) : ecells [p] = p.cells := by simp [ecells]
theorem ecells_len (l : List Edu) : (ecells l).length = l.length * 11 := by
  induction l with
  | nil => rfl
  | cons p l ih => rw [show p :: l = [p] ++ l from rfl, ecells_append, List.length_append, ih, ecells_one]; simp [Edu.cells]; omega
theorem ecells_drop (l : List Edu) (k : Nat) : ecells (l.drop k) = (ecells l).drop (k * 11) := by
  induction l generalizing k with
  | nil => simp [ecells]
  | cons p l ih =>
    cases k with
    | zero => simp [ecells]
    | succ k =>
      rw [List.drop_succ_cons, ih, show p :: l = [p] ++ l from rfl, ecells_append, ecells_one, show (k + 1) * 11 = 11 + k * 11 by omega, ← List.drop_drop]
      rfl
theorem ecells_at (l : List Edu) (k : Nat) (p : Edu) (h : l[k]? = some p) (j : Nat) (hj : j < 11) : (ecells l)[k * 11 + j]? = p.cells[j]? := by
  have e : ecells (l.drop k) = (ecells l).drop (k * 11) := ecells_drop l k
  obtain ⟨hk, hp⟩ := List.getElem?_eq_some_iff.1 h
  rw [List.drop_eq_getElem_cons hk, hp, show p :: l.drop (k + 1) = [p] ++ l.drop (k + 1) from rfl, ecells_append, ecells_one] at e
  rw [← List.getElem?_drop, ← e, List.getElem?_append_left (by simpa [Edu.cells] using hj)]
theorem ecells_cell (l : List Edu) : ∀ u ∈ ecells l, u.oneCell' = true := by
  intro u hu
  simp only [ecells, List.mem_flatMap] at hu
  obtain ⟨q, _, hu⟩ := hu
  simp [Edu.cells] at hu
  rcases hu with rfl | rfl | rfl | rfl | rfl | rfl | rfl | rfl | rfl | rfl | rfl <;> rfl
/-- A row of EDUs. -/
def ERow (w : World) (base : Nat) (v : Value) (l : List Edu) : Prop := Row w base 32 11 v l.length (ecells l)
theorem ERow.chgNo {w w' : World} {base : Nat} {v : Value} {l : List Edu} (h : ERow w base v l) (hc : Chg NoM w w') : ERow w' base v l := Row.chg h hc (fun _ _ _ _ _ h => h)
theorem ERow.base {w : World} {base base' : Nat} {v : Value} {l : List Edu} (h : ERow w base v l) (hb : base' ≤ base) : ERow w base' v l := Row.base h hb
/-- Where an element's cells lie. -/
theorem ERow.at {w : World} {base c : Nat} {A : Option Addr} {l : List Edu} (h : ERow w base (.slice A l.length c) l) {k : Nat} {p : Edu} (hk : l[k]? = some p) :
    ∃ g, A = some ⟨g, 0, none⟩ ∧ base ≤ g ∧ (∃ cur, w.heap[g]? = some (.cells cur 32 (0, 0))) ∧ ∀ j, j < 11 → w.cell? ⟨g, k * 11 + j, none⟩ = p.cells[j]? := by
  have hlt := (List.getElem?_eq_some_iff.1 hk).1
  obtain ⟨g, cap, he, hb, _, _, ⟨cur, hcur, _⟩, hc⟩ := Row.cells h (by omega)
  injection he with he
  refine ⟨g, he, hb, ⟨cur, hcur⟩, fun j hj => ?_⟩
  have hp := ecells_at l k p hk j hj
  have hp2 : p.cells[j]? = some p.cells[j] := List.getElem?_eq_getElem (by simpa [Edu.cells] using hj)
  rw [hp2] at hp ⊢
  exact hc _ _ hp

set_option maxHeartbeats 1000000 in
theorem index_any (base c : Nat) (A : Option Addr) (l : List Edu) (e : Edu) (w : World) (hl : ERow w base (.slice A l.length c) l) :
    Calls Try.prog 29 #[.slice A l.length c, e.agg] w fun en w' => (∃ z : Int, en = .returned (.int .i64 z) ∧ (0 ≤ z ↔ e ∈ l)) ∧ Chg NoM w w' := by
  have HL := Lib.hid hl
  have lc : l.length ≤ 9223372036854775807 := by
    obtain ⟨_, _, he, h1, h2⟩ := Row.slice hl
    simp only [maxLen] at h2
    omega
  have hg := guard32
  clear hl
  unfold Edu.agg
  go_enter Try.func29, Try.ntmps29
  go_wp2_with fail
  go_loopw [8] (fun i wr => ∃ k : Nat, k ≤ l.length ∧ i = .int .i64 k ∧ Hid (∀ x ∈ l.take k, x ≠ e) ∧ Hid (Chg NoM w wr) ∧ Hid (wr.heap[w.heap.size]? = some (.cells e.cells.toArray 32 (0, 0)))) (fun i _ => l.length - (intOf i).toNat)
  case atStart => exact ⟨0, by omega, rfl, (fun x hx => by simp at hx), (Chg.refl w).alloc _, blk_new w _⟩
  case round =>
    obtain ⟨k, hk, rfl, HT, C, B⟩ := hrel
    by_cases hlt : k < l.length
    · obtain ⟨p, hp⟩ : ∃ p, l[k]? = some p := ⟨_, List.getElem?_eq_getElem hlt⟩
      obtain ⟨g, rfl, _, _, hc⟩ := (HL.out.chgNo C.out).at hp
      have HP := Lib.hid hp
      have x_0 := hc 0 (by omega)
      have x_1 := hc 1 (by omega)
      have x_2 := hc 2 (by omega)
      have x_3 := hc 3 (by omega)
      have x_4 := hc 4 (by omega)
      have x_5 := hc 5 (by omega)
      have x_6 := hc 6 (by omega)
      have x_7 := hc 7 (by omega)
      have x_8 := hc 8 (by omega)
      have x_9 := hc 9 (by omega)
      have x_10 := hc 10 (by omega)
      simp only [Edu.cells, List.getElem?_cons_zero, List.getElem?_cons_succ, Nat.add_zero] at x_0 x_1 x_2 x_3 x_4 x_5 x_6 x_7 x_8 x_9 x_10
      have hb : ∀ j, j < 11 → wr.cell? ⟨w.heap.size, j, none⟩ = e.cells[j]? := fun j hj => by rw [blk_cell B.out]; simp
      have y_0 := hb 0 (by omega)
      have y_1 := hb 1 (by omega)
      have y_2 := hb 2 (by omega)
      have y_3 := hb 3 (by omega)
      have y_4 := hb 4 (by omega)
      have y_5 := hb 5 (by omega)
      have y_6 := hb 6 (by omega)
      have y_7 := hb 7 (by omega)
      have y_8 := hb 8 (by omega)
      have y_9 := hb 9 (by omega)
      have y_10 := hb 10 (by omega)
      simp only [Edu.cells, List.getElem?_cons_zero, List.getElem?_cons_succ, Nat.add_zero] at y_0 y_1 y_2 y_3 y_4 y_5 y_6 y_7 y_8 y_9 y_10
      have hq := eqlE e p
      have i0 : (0 : Int) ≤ (k : Int) := by omega
      have i1 : (k : Int) < (l.length : Int) := by omega
      unfold Edu.agg at hq
      clear hc hb hp
      by_cases hep : e = p
      · have HE := Lib.hid hep
        rw [decide_eq_true hep] at hq
        clear hep
        go_wp2_with fail
        go_quiet (fail)
        go_wp2_with fail
        go_ret
        refine ⟨⟨k, rfl, fun _ => ?_, fun _ => by omega⟩, C.out.drewN _⟩
        rw [HE.out]
        exact List.mem_of_getElem? HP.out
      · have HE := Lib.hid hep
        rw [decide_eq_false hep] at hq
        clear hep
        go_wp2_with fail
        go_quiet (fail)
        go_wp2_with fail
        refine ⟨⟨k + 1, by omega, by go_num, fun y hy => ?_, C.out.drewN _, B⟩, by simp [intOf]; omega⟩
        rw [List.take_succ_eq_append_getElem hlt] at hy
        rcases List.mem_append.1 hy with h | h
        · exact HT.out y h
        · simp at h
          rw [h, (List.getElem?_eq_some_iff.1 HP.out).2]
          exact fun h => HE.out h.symm
    · obtain rfl : l.length = k := by omega
      go_wp2_with fail
      go_ret
      refine ⟨⟨-1, rfl, ?_⟩, C.out⟩
      have := HT.out
      rw [List.take_length] at this
      exact ⟨fun h => by omega, fun h => absurd rfl (this e h)⟩
theorem contains_yes (base c : Nat) (A : Option Addr) (l : List Edu) (e : Edu) (w : World) (hl : ERow w base (.slice A l.length c) l) (he : e ∈ l) :
    Calls Try.prog 21 #[.slice A l.length c, e.agg] w fun en w' => en = .returned (.bool true) ∧ Chg NoM w w' := by
  have HL := Lib.hid hl
  clear hl
  unfold Edu.agg
  go_enter Try.func21, Try.ntmps21
  go_wp2_with fail
  refine (index_any base c A l e _ (HL.out.chgNo ((Chg.refl w).alloc _))).mono ?_
  rintro en w' ⟨⟨z, rfl, hz⟩, hc⟩
  have z0 : decide (0 ≤ z) = true := by simpa using hz.2 he
  have HC := Lib.hid hc
  clear hz hc
  go_wp2_with fail
  go_ret
  exact ⟨rfl, ((Chg.refl w).alloc _).trans HC.out⟩
theorem contains_no (base c : Nat) (A : Option Addr) (l : List Edu) (e : Edu) (w : World) (hl : ERow w base (.slice A l.length c) l) (he : e ∉ l) :
    Calls Try.prog 21 #[.slice A l.length c, e.agg] w fun en w' => en = .returned (.bool false) ∧ Chg NoM w w' := by
  have HL := Lib.hid hl
  clear hl
  unfold Edu.agg
  go_enter Try.func21, Try.ntmps21
  go_wp2_with fail
  refine (index_any base c A l e _ (HL.out.chgNo ((Chg.refl w).alloc _))).mono ?_
  rintro en w' ⟨⟨z, rfl, hz⟩, hc⟩
  have z0 : decide (0 ≤ z) = false := by simpa using fun h => he (hz.1 h)
  have HC := Lib.hid hc
  clear hz hc
  go_wp2_with fail
  go_ret
  exact ⟨rfl, ((Chg.refl w).alloc _).trans HC.out⟩
set_option maxHeartbeats 400000 in
theorem clone_any (base c : Nat) (A : Option Addr) (l : List Edu) (w : World) (hl : ERow w base (.slice A l.length c) l) (hn : l.length ≤ 1000) :
    Calls Try.prog 25 #[.slice A l.length c] w fun en w' => ∃ v, en = .returned v ∧ ERow w' w.heap.size v l ∧ Chg NoM w w' := by
  cases A with
  | none =>
    have hnil := fun (w : World) => Lib.run_eql_slice_nil (P := Try.prog) w 30 32 none 0 c 0 0 Try.underlying30
    have h0 : l = [] := by
      rcases hl.2 with ⟨_, h0⟩ | ⟨g, cap, cur, he, _⟩
      · exact List.eq_nil_of_length_eq_zero h0
      · injection he with he; cases he
    subst h0
    simp only [List.length_nil]
    clear hl
    go_enter Try.func25, Try.ntmps25
    go_wp2_with fail
    go_ret
    exact ⟨_, rfl, Row.nil _ _ _ _, Chg.refl _⟩
  | some a =>
    have hnil := fun (w : World) => Lib.run_eql_slice_nil (P := Try.prog) w 30 32 (some a) l.length c 0 0 Try.underlying30
    have HL := Lib.hid hl
    clear hl
    go_enter Try.func25, Try.ntmps25
    go_wp2_with (refine wpList_append_Row _ rfl (.tmp 5) (.tmp 6) 30 rfl w.heap.size 32 _ 11 112 Try.underlying30 Try.info32 rfl (by omega) (.slice (some ⟨w.heap.size, 0, none⟩) 0 0) 0 [] rfl ?c0 (some a) l.length c (ecells l) rfl (ecells_len l) ?c1 (ecells_cell l) ?c2 ?c3 ?c4 ?_)
    case c0 => exact ⟨by simp, .inr ⟨w.heap.size, 0, #[], rfl, Nat.le_refl _, blk_new w _, Nat.le_refl _, by simp [maxLen], by simp, by simp⟩⟩
    case c1 => exact Row.news HL.out ((Chg.refl w).alloc _)
    case c2 => omega
    case c3 => omega
    case c4 => simp
    intro v' w2 R
    have hr := R.row
    rw [Nat.zero_add, List.nil_append] at hr
    have hc : Chg NoM w w2 := ((Chg.refl w).alloc _).thenAll R.chg (fun i o h => by have := h.1; simp [Value.ownBlock] at this; omega)
    obtain ⟨A2, c2, rfl, _, _⟩ := hr.slice
    have HR := Lib.hid hr
    have HC := Lib.hid hc
    clear R hr hc
    go_wp2_with fail
    go_ret
    exact ⟨_, rfl, HR.out, HC.out⟩
end Go.Proofs.Ytccppjhkffmnaaa
