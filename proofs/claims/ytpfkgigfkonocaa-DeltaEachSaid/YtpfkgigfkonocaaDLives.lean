/- The document's example of layer 20; a log and a list of keys side by side. -/
import Derived.Test.YtpfkgigfkonocaaDRef
import Derived.Test.YtpfkgigfkonocaaAround
namespace Go.Proofs.Ytpfkgigfkonocaa
set_option linter.unusedVariables false
set_option linter.unusedSimpArgs false
open Go.RowKit
variable {w w' w1 : World} {base lb nb mb : Nat} {f most : Int} {own own' l : List ByteArray} {v v' u u' : Value}

theorem SO.blk {g : Nat} {fr : Nat × Nat} (h : w.heap[g]? = some (.cells (scells l).toArray 9 fr)) : SO w (some ⟨g, 0, none⟩) l := fun _ => ⟨g, 0, rfl, fun j s hs => by
  rw [blk_cell h, Nat.zero_add]
  simpa using scells_get l j s hs⟩
theorem LogAt.chg {M : Nat → Obj → Prop} (h : LogAt w base lb f own most nb mb v) (hc : Chg M w w') (h1 : ∀ c f, ¬ M lb (.cells c 59 f)) (h2 : ∀ c f, ¬ M nb (.cells c 70 f)) (h3 : ∀ es c, ¬ M mb (.map es c)) (h4 : ∀ g c f, v.ownBlock = some g → ¬ M g (.cells c 9 f)) : LogAt w' base lb f own most nb mb v :=
  ⟨hc.block _ _ h.box (h1 _ _), hc.block _ _ h.ctr (h2 _ _), h.map.imp fun _ hm => ⟨hm.1.chg hc (fun es c => h3 es c), hm.2⟩, Row.chg h.row hc (fun g c f hg _ => h4 g c f hg), h.lo⟩
theorem LogAt.base_le (h : LogAt w base lb f own most nb mb v) : base ≤ w.heap.size := by
  have := lt_of_blk h.box
  have := h.lo.1
  omega
structure Duo (w : World) (base lb : Nat) (f : Int) (own : List ByteArray) (most : Int) (nb mb : Nat) (v u : Value) (l : List ByteArray) : Prop where
  log : LogAt w base lb f own most nb mb v
  row : Row w base 9 1 u l.length (scells l)
  sep : ∀ g, v.ownBlock = some g → u.ownBlock ≠ some g
theorem Duo.chgNo (h : Duo w base lb f own most nb mb v u l) (hc : Chg NoM w w') : Duo w' base lb f own most nb mb v u l := ⟨h.log.chgNo hc, Row.chg h.row hc (fun _ _ _ _ _ h => h), h.sep⟩
theorem Duo.nil (h : LogAt w base lb f own most nb mb v) : Duo w base lb f own most nb mb v (.slice none 0 0) [] := ⟨h, Row.nil _ _ _ _, fun g _ h => by simp [Value.ownBlock] at h⟩
theorem LogM.row {lb nb mb k : Nat} {v : Value} {c : Array Value} {fr : Nat × Nat} (h : LogM lb nb mb v k (.cells c 9 fr)) : v.ownBlock = some k := by
  rcases h with ⟨_, c', f', h⟩ | ⟨_, c', f', h⟩ | ⟨_, _, _, h⟩ | h
  · injection h with _ h; cases h
  · injection h with _ h; cases h
  · cases h
  · exact h.own
theorem Duo.touch (h : Duo w base lb f own most nb mb v u l) (hl : LogAt w' base lb f own' most nb mb v') (ho : OwnG w v v') (hc : Chg (LogM lb nb mb v) w w') : Duo w' base lb f own' most nb mb v' u l := by
  refine ⟨hl, Row.chg h.row hc (fun g c f hg _ hx => h.sep g (LogM.row hx) hg), fun g hg hu => ?_⟩
  rcases ho g hg with h' | h'
  · exact h.sep g h' hu
  · have := Row.own_lt h.row hu; omega
theorem Duo.app {s : ByteArray} {o : Obj} (h : Duo w base lb f own most nb mb v u l) (R : AppRes (w.alloc o) w' base 9 1 u u' l.length 1 (scells l) (scells [s])) : Duo w' base lb f own most nb mb v u' (l ++ [s]) ∧ (∀ W, Chg NoM W w → W.heap.size ≤ base → Chg NoM W w') := by
  have h1 := h.chgNo ((Chg.refl w).alloc o)
  refine ⟨⟨h1.log.chg R.chg (fun _ _ => RowM.ne (by decide)) (fun _ _ => RowM.ne (by decide)) (fun es c => by rintro ⟨_, _, _, h⟩; cases h) (fun g c f hg hx => h.sep g hg hx.own), ?_, fun g hg hu => ?_⟩, fun W hW hB => (hW.alloc o).thenAll R.chg (fun i x hx => ?_)⟩
  · have := R.row
    rw [← scells_append] at this
    rw [List.length_append, List.length_singleton]
    exact this
  · rcases R.own with e | e
    · rw [e] at hu; exact h.sep g hg hu
    · rw [e] at hu
      simp at hu
      have := Row.own_lt h.log.row hg
      omega
  · have := Row.own_ge h.row hx.own; omega
theorem Duo.slice (h : Duo w base lb f own most nb mb v u l) : ∃ A c, u = .slice A l.length c ∧ SO w A l := by
  obtain ⟨A, c, rfl, _, _⟩ := Row.slice h.row
  exact ⟨A, c, rfl, SO.ofRow h.row⟩
def bA : ByteArray := ⟨#[97]⟩
def bB : ByteArray := ⟨#[98]⟩
theorem ex0 : sinceL 0 [bA, bB, bA] 0 = [bB, bA] := by decide
theorem ex2 : sinceL 0 [bA, bB, bA] 2 = [bA] := by decide
set_option maxHeartbeats 2000000 in
theorem lives_true (w : World) : Calls Try.prog 15 #[] w fun e w' => e = .returned (.bool true) ∧ Chg NoM w w' := by
  go_enter Try.func15, Try.ntmps15
  go_wp2_with fail
  refine (new_yes 0 9 w (by omega) (by omega) (by omega) (by omega)).mono ?_
  rintro e w1 ⟨rfl, hl1, hc1⟩
  have L1 := Lib.hid hl1
  have C1 := Lib.hid hc1
  clear hl1 hc1
  go_wp2_with fail
  refine (touch_ok bA w1 L1.out (by decide) (by decide) (by decide) (by decide) (by decide)).mono ?_
  rintro e w2 ⟨rfl, v2, hl2, ho2, hc2⟩
  have L2 := Lib.hid hl2
  have C2 : Hid (Chg NoM w w2) := C1.out.thenAll hc2 (fun i o h => by exact LogM.new L1.out i o h)
  clear hl2 hc2 ho2
  go_wp2_with fail
  refine (touch_ok bB w2 L2.out (by decide) (by decide) (by decide) (by decide) (by decide)).mono ?_
  rintro e w3 ⟨rfl, v3, hl3, ho3, hc3⟩
  have L3 := Lib.hid hl3
  have C3 : Hid (Chg NoM w w3) := C2.out.thenAll hc3 (fun i o h => by exact LogM.new L2.out i o h)
  clear hl3 hc3 ho3
  go_wp2_with fail
  refine (touch_ok bA w3 L3.out (by decide) (by decide) (by decide) (by decide) (by decide)).mono ?_
  rintro e w4 ⟨rfl, v4, hl4, ho4, hc4⟩
  have L4 : Hid (LogAt w4 w.heap.size (w.heap.size + 2) 0 [bA, bB, bA] 9 w.heap.size (w.heap.size + 1) v4) := hl4
  have C4 : Hid (Chg NoM w w4) := C3.out.thenAll hc4 (fun i o h => by exact LogM.new L3.out i o h)
  clear hl4 hc4 ho4
  go_wp2_with fail
  refine (since_any 0 w4 L4.out (by decide) (by decide)).mono ?_
  rw [ex0]
  rintro e w5 ⟨g5, rfl, hg5, hb5, hc5⟩
  have C5 := Lib.hid (C4.out.trans hc5)
  have L5 := Lib.hid (L4.out.chgNo hc5)
  have S5 := Lib.hid (SO.blk hb5)
  clear hg5 hb5 hc5
  go_wp2_with fail
  refine (same_texts _ _ _ _ [bB, bA] _ (S5.out.chgNo ((Chg.refl w5).alloc _)) (SO.blk (blk_new w5 _)) (by decide)).mono ?_
  rintro e w6 ⟨rfl, hc6⟩
  have D6 := Lib.hid (((Chg.refl w5).alloc _).trans hc6)
  have C6 := Lib.hid (C5.out.trans D6.out)
  have L6 := Lib.hid (L5.out.chgNo D6.out)
  clear hc6
  go_wp2_with fail
  refine (since_any 2 w6 L6.out (by decide) (by decide)).mono ?_
  rw [ex2]
  rintro e w7 ⟨g7, rfl, hg7, hb7, hc7⟩
  have C7 := Lib.hid (C6.out.trans hc7)
  have S7 := Lib.hid (SO.blk hb7)
  clear hg7 hb7 hc7
  go_wp2_with fail
  refine (same_texts _ _ _ _ [bA] _ (S7.out.chgNo ((Chg.refl w7).alloc _)) (SO.blk (blk_new w7 _)) (by decide)).mono ?_
  rintro e w8 ⟨rfl, hc8⟩
  have C8 := Lib.hid ((C7.out.alloc _).trans hc8)
  clear hc8
  go_wp2_with fail
  go_ret
  exact ⟨rfl, C8.out⟩
end Go.Proofs.Ytpfkgigfkonocaa
