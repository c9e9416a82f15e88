/- Contracts of the reference of layer 23 (concourseref23): Put, Take, Copy, Move on a list of texts. -/
import Derived.Test.YtmkjonfdeolihaaNet4
namespace Go.Proofs.Ytmkjonfdeolihaa
set_option linter.unusedVariables false
set_option linter.unusedSimpArgs false
open Go.RowKit

theorem Try.info44 : (Try.prog.info? 44).map (fun i => (i.zero, i.size, i.bytes)) = some (some (.agg #[.string .empty, .string .empty]), 2, 32) := by kernel_rfl

def rcells (l : List (ByteArray × ByteArray)) : List Value := l.flatMap fun p => [.string p.1, .string p.2]
theorem rcells_append (l m : List (ByteArray × ByteArray)) : rcells (l ++ m) = rcells l ++ rcells m := by simp [rcells]
theorem rcells_one (p : ByteArray × ByteArray) : rcells [p] = [.string p.1, .string p.2] := by simp [rcells]
theorem rcells_len (l : List (ByteArray × ByteArray)) : (rcells l).length = l.length * 2 := by
  induction l with
  | nil => rfl
  | cons p l ih => rw [show p :: l = [p] ++ l from rfl, rcells_append, List.length_append, ih, rcells_one]; simp; omega
theorem rcells_cell (l : List (ByteArray × ByteArray)) : ∀ u ∈ rcells l, u.oneCell' = true := by
  intro u hu
  simp only [rcells, List.mem_flatMap] at hu
  obtain ⟨q, _, hu⟩ := hu
  simp at hu
  rcases hu with rfl | rfl <;> rfl
theorem rcells_drop (l : List (ByteArray × ByteArray)) (k : Nat) : rcells (l.drop k) = (rcells l).drop (k * 2) := by
  induction l generalizing k with
  | nil => simp [rcells]
  | cons p l ih =>
    cases k with
    | zero => simp [rcells]
    | succ k =>
      rw [List.drop_succ_cons, ih, show p :: l = [p] ++ l from rfl, rcells_append, rcells_one, show (k + 1) * 2 = k * 2 + 1 + 1 by omega]
      rfl
theorem rcells_take (l : List (ByteArray × ByteArray)) (k : Nat) : rcells (l.take k) = (rcells l).take (k * 2) := by
  induction l generalizing k with
  | nil => simp [rcells]
  | cons p l ih =>
    cases k with
    | zero => simp [rcells]
    | succ k =>
      rw [List.take_succ_cons, show p :: l.take k = [p] ++ l.take k from rfl, show p :: l = [p] ++ l from rfl, rcells_append, rcells_append, ih, rcells_one, show (k + 1) * 2 = k * 2 + 1 + 1 by omega]
      rfl
theorem rcells_at (l : List (ByteArray × ByteArray)) (k : Nat) (p : ByteArray × ByteArray) (h : l[k]? = some p) : (rcells l)[k * 2]? = some (.string p.1) ∧ (rcells l)[k * 2 + 1]? = some (.string p.2) := by
  have e : rcells (l.drop k) = (rcells l).drop (k * 2) := rcells_drop l k
  obtain ⟨hk, hp⟩ := List.getElem?_eq_some_iff.1 h
  rw [List.drop_eq_getElem_cons hk, hp, show p :: l.drop (k + 1) = [p] ++ l.drop (k + 1) from rfl, rcells_append, rcells_one] at e
  have h0 : ((rcells l).drop (k * 2))[0]? = some (.string p.1) := by rw [← e]; rfl
  have h1 : ((rcells l).drop (k * 2))[1]? = some (.string p.2) := by rw [← e]; rfl
  rw [List.getElem?_drop] at h0 h1
  exact ⟨h0, h1⟩

/-- A reference's list in memory from block B on. -/
def RefAt (w : World) (B : Nat) (v : Value) (l : List (ByteArray × ByteArray)) : Prop := Row w B 44 2 v l.length (rcells l)
theorem RefAt.chgNo {w w' : World} {B : Nat} {v : Value} {l : List (ByteArray × ByteArray)} (h : RefAt w B v l) (hc : Chg NoM w w') : RefAt w' B v l := Row.chg h hc (fun _ _ _ _ _ h => h)
theorem RefAt.base {w : World} {B B' : Nat} {v : Value} {l : List (ByteArray × ByteArray)} (h : RefAt w B v l) (hb : B' ≤ B) : RefAt w B' v l := Row.base h hb

set_option maxHeartbeats 800000 in
theorem rput_full (B : Nat) (most lost : Int) (v : Value) (l : List (ByteArray × ByteArray)) (to b : ByteArray) (w : World) (hl : RefAt w B v l) (hge : most ≤ (l.length : Int)) (h0 : 0 ≤ lost) (h1 : lost ≤ 4611686018427387904) :
    Calls Try.prog 13 #[.agg #[.int .i64 most, v, .int .i64 lost], .agg #[.string to, .string b]] w fun e w' => e = .returned (.tuple #[.agg #[.int .i64 most, v, .int .i64 (lost + 1)], .bool false]) ∧ Chg NoM w w' := by
  obtain ⟨Av, cv, rfl, _, _⟩ := Row.slice hl
  clear hl
  go_enter Try.func13, Try.ntmps13
  go_wp2_with fail
  refine bodyPost_ret (v := .tuple #[.agg #[.int .i64 most, .slice Av l.length cv, .int .i64 (lost + 1)], .bool false]) (by simp [results, Try.results13, go_sem]) rfl ⟨rfl, ?_⟩
  repeat (first | exact Chg.refl _ | apply Chg.alloc | refine Chg.setNew ?_ (by omega))

set_option maxHeartbeats 1600000 in
theorem rput_room (B : Nat) (most lost : Int) (v : Value) (l : List (ByteArray × ByteArray)) (to b : ByteArray) (w : World) (hl : RefAt w B v l) (hlt : (l.length : Int) < most) (hm : most ≤ 1000) :
    Calls Try.prog 13 #[.agg #[.int .i64 most, v, .int .i64 lost], .agg #[.string to, .string b]] w fun e w' => ∃ v', e = .returned (.tuple #[.agg #[.int .i64 most, v', .int .i64 lost], .bool true]) ∧ RefAt w' w.heap.size v' (l ++ [(to, b)]) ∧ Chg NoM w w' := by
  obtain ⟨Av, cv, rfl, _, _⟩ := Row.slice hl
  have HL := Lib.hid hl
  have hn : ¬ most ≤ (l.length : Int) := by omega
  clear hl
  go_enter Try.func13, Try.ntmps13
  go_wp2_with (refine wpList_append_Row _ rfl (.tmp 18) (.tmp 20) 31 rfl w.heap.size 44 _ 2 32 Try.underlying31 Try.info44 rfl (by omega) (.slice none 0 0) 0 [] rfl ?c0 Av l.length cv (rcells l) rfl ?cx ?c1 ?c2 ?c3 ?c4 ?c5 ?_)
  case c0 => exact Row.nil _ _ _ _
  case cx => exact rcells_len l
  case c2 => exact rcells_cell l
  case c3 => omega
  case c4 => omega
  case c5 => omega
  case c1 => exact Row.news HL.out ((((Chg.refl (M := NoM) w).alloc _).alloc _).alloc _)
  intro v1 w1 R1
  have C1 : Hid (Chg NoM w w1) := ((((Chg.refl (M := NoM) w).alloc _).alloc _).alloc _).then R1.chg (fun i o _ h => by cases h.own)
  have b2 : w1.heap[w.heap.size]? = some (.cells #[.int .i64 most, .slice Av l.length cv, .int .i64 lost] 33 (0, 0)) := R1.chg.block _ _ (blk_alloc (blk_alloc (blk_new w _) _) _) (RowM.ne (by decide))
  have b3 : w1.heap[w.heap.size + 1]? = some (.cells #[.string to, .string b] 44 (0, 0)) := R1.chg.block _ _ (blk_alloc (by simpa using blk_new (w.alloc _) _) _) (fun h => by cases h.own)
  have b4 : w1.heap[w.heap.size + 2]? = some (.cells #[.int .i64 0, .slice none 0 0, .int .i64 0] 33 (0, 0)) := R1.chg.block _ _ (by simpa using blk_new ((w.alloc _).alloc _) _) (RowM.ne (by decide))
  have k30 : w1.cell? ⟨w.heap.size + 1, 0, none⟩ = some (.string to) := blk_cell b3 0
  have k31 : w1.cell? ⟨w.heap.size + 1, 1, none⟩ = some (.string b) := blk_cell b3 1
  have HR1 := Lib.hid R1.row
  have hs1 : w.heap.size + 3 ≤ w1.heap.size := by have := R1.chg.size; simpa using this
  have B2 := Lib.hid b2
  have B4 := Lib.hid b4
  obtain ⟨A1, c1, rfl, _, _⟩ := R1.row.slice
  clear R1 b2 b3 b4
  go_wp2_with (refine wpList_append_Row _ rfl (.tmp 22) (.tmp 24) 31 rfl w.heap.size 44 _ 2 32 Try.underlying31 Try.info44 rfl (by omega) (.slice A1 (0 + l.length) c1) (0 + l.length) ([] ++ rcells l) rfl ?d0 (some ⟨w1.heap.size, 0, none⟩) 1 1 (rcells [(to, b)]) rfl ?dx ?d1 ?d2 ?d3 ?d4 ?d5 ?_)
  case d0 => exact Row.chg (M := NoM) HR1.out ((Chg.refl w1).alloc _) (fun _ _ _ _ _ h => h)
  case dx => rfl
  case d1 => exact fun _ => ⟨_, rfl, news_blk (blk_new w1 _)⟩
  case d2 => exact rcells_cell _
  case d3 => omega
  case d4 => omega
  case d5 => exact ((C1.out).alloc _).size
  intro v2 w2 R2
  have C2 : Hid (Chg NoM w w2) := (C1.out.alloc _).thenAll R2.chg (fun i o h => HR1.out.own_ge (by rw [Nat.zero_add]; exact h.own))
  have q2 : w2.heap[w.heap.size]? = some (.cells #[.int .i64 most, .slice Av l.length cv, .int .i64 lost] 33 (0, 0)) := R2.chg.block _ _ (blk_alloc B2.out _) (RowM.ne (by decide))
  have q4 : w2.heap[w.heap.size + 2]? = some (.cells #[.int .i64 0, .slice none 0 0, .int .i64 0] 33 (0, 0)) := R2.chg.block _ _ (blk_alloc B4.out _) (RowM.ne (by decide))
  have k20 : w2.cell? ⟨w.heap.size, 0, none⟩ = some (.int .i64 most) := blk_cell q2 0
  have k21 : w2.cell? ⟨w.heap.size, 1, none⟩ = some (.slice Av l.length cv) := blk_cell q2 1
  have k22 : w2.cell? ⟨w.heap.size, 2, none⟩ = some (.int .i64 lost) := blk_cell q2 2
  have f21 : w2.frozen? ⟨w.heap.size, 1, none⟩ = false := blk_free q2 1
  have k40 : w2.cell? ⟨w.heap.size + 2, 0, none⟩ = some (.int .i64 0) := blk_cell q4 0
  have k41 : w2.cell? ⟨w.heap.size + 2, 1, none⟩ = some (.slice none 0 0) := blk_cell q4 1
  have k42 : w2.cell? ⟨w.heap.size + 2, 2, none⟩ = some (.int .i64 0) := blk_cell q4 2
  have f40 : w2.frozen? ⟨w.heap.size + 2, 0, none⟩ = false := blk_free q4 0
  have f41 : w2.frozen? ⟨w.heap.size + 2, 1, none⟩ = false := blk_free q4 1
  have f42 : w2.frozen? ⟨w.heap.size + 2, 2, none⟩ = false := blk_free q4 2
  have Q2 := Lib.hid q2
  have Q4 := Lib.hid q4
  have HR2 : Hid (Row w2 w.heap.size 44 2 v2 (l ++ [(to, b)]).length (rcells (l ++ [(to, b)]))) := by
    have := R2.row
    rw [rcells_append, List.length_append, List.length_singleton]
    show Row _ _ _ _ _ _ _
    simpa using this
  clear R2 q2 q4 k30 k31
  obtain ⟨A2, c2, rfl, _, _⟩ := HR2.out.slice
  go_wp2_with fail
  refine bodyPost_ret (v := .tuple #[.agg #[.int .i64 most, .slice A2 (l ++ [(to, b)]).length c2, .int .i64 lost], .bool true]) (by simp [results, Try.results13, go_sem, k40, k41, k42]) rfl ⟨_, rfl, ?_, ?_⟩
  · refine HR2.out.chg (M := fun k _ => k = w.heap.size ∨ k = w.heap.size + 2) ?_ ?_
    · repeat (first | exact Chg.refl _ | (refine Chg.setCell ?_ (fun _ _ => .inl rfl) _) | (refine Chg.setCell ?_ (fun _ _ => .inr rfl) _))
    · rintro g _ _ hg _ (e | e)
      · exact HR2.out.own_ne Q2.out (by decide) (by rw [hg, e])
      · exact HR2.out.own_ne Q4.out (by decide) (by rw [hg, e])
  · repeat (first | exact C2.out | apply Chg.alloc | refine Chg.setNew ?_ (by omega))
end Go.Proofs.Ytmkjonfdeolihaa
