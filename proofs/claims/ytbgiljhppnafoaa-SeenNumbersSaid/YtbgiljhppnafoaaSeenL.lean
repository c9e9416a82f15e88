/- A memory of one's own in a walk; lives returns true. -/
import Derived.Test.YtbgiljhppnafoaaRefA
namespace Go.Proofs.Ytbgiljhppnafoaa
set_option linter.unusedVariables false
set_option linter.unusedSimpArgs false
open Go.RowKit

/-- A memory whose blocks are all new, and below E. -/
def StE (T kt : TypeId) (B E : Nat) (w : World) (sb most : Nat) (m : Value → List Int) : Prop := ∃ S, SeenAt T kt w S sb most m ∧ ∀ g, S g → B ≤ g ∧ g < E
def St (T kt : TypeId) (B : Nat) (w : World) (sb most : Nat) (m : Value → List Int) : Prop := StE T kt B w.heap.size w sb most m
def IntE (B E : Nat) : Nat → Obj → Prop := fun k o => B ≤ k ∧ k < E ∧ ((∃ es c, o = .map es c) ∨ ∃ c f, o = .cells c 3 f)
theorem IntE.ne {B E k : Nat} {c : Array Value} {t : TypeId} {f : Nat × Nat} (h : t ≠ 3) : ¬ IntE B E k (.cells c t f) := by
  rintro ⟨_, _, ⟨_, _, h'⟩ | ⟨_, _, h'⟩⟩
  · cases h'
  · injection h' with _ h'; exact h h'
theorem StE.chgNo {T kt : TypeId} {B E sb most : Nat} {w w' : World} {m : Value → List Int} (h : StE T kt B E w sb most m) (hc : Chg NoM w w') : StE T kt B E w' sb most m := by
  obtain ⟨S, h1, h2⟩ := h
  exact ⟨S, h1.chgNo hc, h2⟩
theorem StE.st {T kt : TypeId} {B E sb most : Nat} {w : World} {m : Value → List Int} (h : StE T kt B E w sb most m) (hE : E ≤ w.heap.size) : St T kt B w sb most m := by
  obtain ⟨S, h1, h2⟩ := h
  exact ⟨S, h1, fun g hg => ⟨(h2 g hg).1, Nat.lt_of_lt_of_le (h2 g hg).2 hE⟩⟩
/-- What a note may change. -/
def IntM (B : Nat) : Nat → Obj → Prop := fun k o => B ≤ k ∧ ((∃ es c, o = .map es c) ∨ ∃ c f, o = .cells c 3 f)
theorem IntM.ne {B k : Nat} {c : Array Value} {t : TypeId} {f : Nat × Nat} (h : t ≠ 3) : ¬ IntM B k (.cells c t f) := by
  rintro ⟨_, ⟨_, _, h'⟩ | ⟨_, _, h'⟩⟩
  · cases h'
  · injection h' with _ h'; exact h h'
theorem IntM.new {B k : Nat} {o : Obj} (h : IntM B k o) : B ≤ k := h.1
theorem Chg.int {w0 a b : World} (h : Chg NoM w0 a) (k : Chg (IntM w0.heap.size) a b) : Chg NoM w0 b := h.thenAll k (fun _ _ h => h.1)
theorem St.chgNo {T kt : TypeId} {B sb most : Nat} {w w' : World} {m : Value → List Int} (h : St T kt B w sb most m) (hc : Chg NoM w w') : St T kt B w' sb most m := (StE.chgNo h hc).st hc.size
theorem key_s {s : ByteArray} (h : s.size ≤ 1000) : keyOf Try.prog 9 (.string s) = some (.string s.data.toList) := WideMaps.keyOf_string_mk Try.underlying9 (by simp only [maxLen]; omega)
theorem key_i {n : Int} (h1 : -9223372036854775808 ≤ n) (h2 : n ≤ 9223372036854775807) : keyOf Try.prog 3 (.int .i64 n) = some (.int .i64 n) :=
  Maps.keyOf_int_mk Try.underlying3 (by simp [Lit.wf, IntKind.min, IntKind.max, IntKind.signed, IntKind.bits]; omega)

theorem St.new_s (w0 w : World) (n : Nat) (h1 : 1 ≤ n) (h2 : n ≤ 1000) (h0 : w0.heap.size ≤ w.heap.size) :
    Calls Try.prog 9 #[.int .i64 n] w fun e w' => ∃ sb, e = .returned (.tuple #[.pointer (some ⟨sb, 0, none⟩), .int .i64 0]) ∧ w.heap.size ≤ sb ∧ St 53 9 w0.heap.size w' sb n (fun _ => []) ∧ Chg NoM w w' := by
  refine (new_yes_s n w h1 h2).mono ?_
  rintro e w' ⟨rfl, hs, hz, hc⟩
  exact ⟨_, rfl, by omega, ⟨_, hs, fun g hg => by rw [hg]; exact ⟨h0, by omega⟩⟩, hc⟩
theorem St.has_yes_s {B sb most : Nat} {w : World} {m : Value → List Int} {key : Value} {kl : Lit} {n : Int} (h : St 53 9 B w sb most m) (hk : keyOf Try.prog 9 key = some kl) (hn : n ∈ m key) :
    Calls Try.prog 11 #[.pointer (some ⟨sb, 0, none⟩), key, .int .i64 n] w fun e w' => e = .returned (.bool true) ∧ Chg NoM w w' := by
  obtain ⟨S, h1, h2⟩ := h
  exact Go.Proofs.Ytbgiljhppnafoaa.has_yes_s S sb most m key kl n w h1 hk hn
theorem St.has_no_s {B sb most : Nat} {w : World} {m : Value → List Int} {key : Value} {kl : Lit} {n : Int} (h : St 53 9 B w sb most m) (hk : keyOf Try.prog 9 key = some kl) (hn : n ∉ m key) :
    Calls Try.prog 11 #[.pointer (some ⟨sb, 0, none⟩), key, .int .i64 n] w fun e w' => e = .returned (.bool false) ∧ Chg NoM w w' := by
  obtain ⟨S, h1, h2⟩ := h
  exact Go.Proofs.Ytbgiljhppnafoaa.has_no_s S sb most m key kl n w h1 hk hn
theorem St.note_no_s {B sb most : Nat} {w : World} {m : Value → List Int} {key : Value} {kl : Lit} {n : Int} (h : St 53 9 B w sb most m) (hk : keyOf Try.prog 9 key = some kl) (hn : n ∈ m key) :
    Calls Try.prog 10 #[.pointer (some ⟨sb, 0, none⟩), key, .int .i64 n] w fun e w' => e = .returned (.bool false) ∧ Chg NoM w w' := by
  obtain ⟨S, h1, h2⟩ := h
  exact Go.Proofs.Ytbgiljhppnafoaa.note_no_s S sb most m key kl n w h1 hk hn
theorem StE.note_yes_s {B E sb most : Nat} {w : World} {m : Value → List Int} {key : Value} {kl : Lit} {n : Int} (h : StE 53 9 B E w sb most m) (hB : B ≤ w.heap.size) (hE : E ≤ w.heap.size) (hk : keyOf Try.prog 9 key = some kl) (hn : n ∉ m key) (hl : (m key).length ≤ 1000) (hm : most ≤ 1000) :
    Calls Try.prog 10 #[.pointer (some ⟨sb, 0, none⟩), key, .int .i64 n] w fun e w' => e = .returned (.bool true) ∧ St 53 9 B w' sb most (mset m key (noted most (m key) n)) ∧ Chg (IntE B E) w w' := by
  obtain ⟨S, h1, h2⟩ := h
  refine (Go.Proofs.Ytbgiljhppnafoaa.note_yes_s S sb most m key kl n w h1 hk hn hl hm).mono ?_
  rintro e w' ⟨rfl, hs, hc⟩
  refine ⟨rfl, ⟨_, hs, ?_⟩, hc.mono (fun i o _ h => ⟨(h2 i h.1).1, (h2 i h.1).2, h.2⟩)⟩
  have hz := hc.size
  rintro g (h | h)
  · exact ⟨(h2 g h).1, by have := (h2 g h).2; omega⟩
  · omega
theorem St.note_yes_s {B sb most : Nat} {w : World} {m : Value → List Int} {key : Value} {kl : Lit} {n : Int} (h : St 53 9 B w sb most m) (hB : B ≤ w.heap.size) (hk : keyOf Try.prog 9 key = some kl) (hn : n ∉ m key) (hl : (m key).length ≤ 1000) (hm : most ≤ 1000) :
    Calls Try.prog 10 #[.pointer (some ⟨sb, 0, none⟩), key, .int .i64 n] w fun e w' => e = .returned (.bool true) ∧ St 53 9 B w' sb most (mset m key (noted most (m key) n)) ∧ Chg (IntM B) w w' := by
  refine (StE.note_yes_s h hB (Nat.le_refl _) hk hn hl hm).mono ?_
  rintro e w' ⟨rfl, hs, hc⟩
  exact ⟨rfl, hs, hc.mono (fun i o _ h => ⟨h.1, h.2.2⟩)⟩
theorem St.all_s {B sb most : Nat} {w : World} {m : Value → List Int} {key : Value} {kl : Lit} (h : St 53 9 B w sb most m) (hk : keyOf Try.prog 9 key = some kl) (hl : (m key).length ≤ 1000) :
    Calls Try.prog 21 #[.pointer (some ⟨sb, 0, none⟩), key] w fun e w' => ∃ v, e = .returned v ∧ RowO w' 3 v (imap (m key)) ∧ Chg NoM w w' := by
  obtain ⟨S, h1, h2⟩ := h
  exact Go.Proofs.Ytbgiljhppnafoaa.all_s S sb most m key kl w h1 hk hl
theorem St.new_i (w0 w : World) (n : Nat) (h1 : 1 ≤ n) (h2 : n ≤ 1000) (h0 : w0.heap.size ≤ w.heap.size) :
    Calls Try.prog 13 #[.int .i64 n] w fun e w' => ∃ sb, e = .returned (.tuple #[.pointer (some ⟨sb, 0, none⟩), .int .i64 0]) ∧ w.heap.size ≤ sb ∧ St 57 3 w0.heap.size w' sb n (fun _ => []) ∧ Chg NoM w w' := by
  refine (new_yes_i n w h1 h2).mono ?_
  rintro e w' ⟨rfl, hs, hz, hc⟩
  exact ⟨_, rfl, by omega, ⟨_, hs, fun g hg => by rw [hg]; exact ⟨h0, by omega⟩⟩, hc⟩
theorem St.has_yes_i {B sb most : Nat} {w : World} {m : Value → List Int} {key : Value} {kl : Lit} {n : Int} (h : St 57 3 B w sb most m) (hk : keyOf Try.prog 3 key = some kl) (hn : n ∈ m key) :
    Calls Try.prog 27 #[.pointer (some ⟨sb, 0, none⟩), key, .int .i64 n] w fun e w' => e = .returned (.bool true) ∧ Chg NoM w w' := by
  obtain ⟨S, h1, h2⟩ := h
  exact Go.Proofs.Ytbgiljhppnafoaa.has_yes_i S sb most m key kl n w h1 hk hn
theorem St.has_no_i {B sb most : Nat} {w : World} {m : Value → List Int} {key : Value} {kl : Lit} {n : Int} (h : St 57 3 B w sb most m) (hk : keyOf Try.prog 3 key = some kl) (hn : n ∉ m key) :
    Calls Try.prog 27 #[.pointer (some ⟨sb, 0, none⟩), key, .int .i64 n] w fun e w' => e = .returned (.bool false) ∧ Chg NoM w w' := by
  obtain ⟨S, h1, h2⟩ := h
  exact Go.Proofs.Ytbgiljhppnafoaa.has_no_i S sb most m key kl n w h1 hk hn
theorem St.note_no_i {B sb most : Nat} {w : World} {m : Value → List Int} {key : Value} {kl : Lit} {n : Int} (h : St 57 3 B w sb most m) (hk : keyOf Try.prog 3 key = some kl) (hn : n ∈ m key) :
    Calls Try.prog 14 #[.pointer (some ⟨sb, 0, none⟩), key, .int .i64 n] w fun e w' => e = .returned (.bool false) ∧ Chg NoM w w' := by
  obtain ⟨S, h1, h2⟩ := h
  exact Go.Proofs.Ytbgiljhppnafoaa.note_no_i S sb most m key kl n w h1 hk hn
theorem StE.note_yes_i {B E sb most : Nat} {w : World} {m : Value → List Int} {key : Value} {kl : Lit} {n : Int} (h : StE 57 3 B E w sb most m) (hB : B ≤ w.heap.size) (hE : E ≤ w.heap.size) (hk : keyOf Try.prog 3 key = some kl) (hn : n ∉ m key) (hl : (m key).length ≤ 1000) (hm : most ≤ 1000) :
    Calls Try.prog 14 #[.pointer (some ⟨sb, 0, none⟩), key, .int .i64 n] w fun e w' => e = .returned (.bool true) ∧ St 57 3 B w' sb most (mset m key (noted most (m key) n)) ∧ Chg (IntE B E) w w' := by
  obtain ⟨S, h1, h2⟩ := h
  refine (Go.Proofs.Ytbgiljhppnafoaa.note_yes_i S sb most m key kl n w h1 hk hn hl hm).mono ?_
  rintro e w' ⟨rfl, hs, hc⟩
  refine ⟨rfl, ⟨_, hs, ?_⟩, hc.mono (fun i o _ h => ⟨(h2 i h.1).1, (h2 i h.1).2, h.2⟩)⟩
  have hz := hc.size
  rintro g (h | h)
  · exact ⟨(h2 g h).1, by have := (h2 g h).2; omega⟩
  · omega
theorem St.note_yes_i {B sb most : Nat} {w : World} {m : Value → List Int} {key : Value} {kl : Lit} {n : Int} (h : St 57 3 B w sb most m) (hB : B ≤ w.heap.size) (hk : keyOf Try.prog 3 key = some kl) (hn : n ∉ m key) (hl : (m key).length ≤ 1000) (hm : most ≤ 1000) :
    Calls Try.prog 14 #[.pointer (some ⟨sb, 0, none⟩), key, .int .i64 n] w fun e w' => e = .returned (.bool true) ∧ St 57 3 B w' sb most (mset m key (noted most (m key) n)) ∧ Chg (IntM B) w w' := by
  refine (StE.note_yes_i h hB (Nat.le_refl _) hk hn hl hm).mono ?_
  rintro e w' ⟨rfl, hs, hc⟩
  exact ⟨rfl, hs, hc.mono (fun i o _ h => ⟨h.1, h.2.2⟩)⟩
theorem St.all_i {B sb most : Nat} {w : World} {m : Value → List Int} {key : Value} {kl : Lit} (h : St 57 3 B w sb most m) (hk : keyOf Try.prog 3 key = some kl) (hl : (m key).length ≤ 1000) :
    Calls Try.prog 17 #[.pointer (some ⟨sb, 0, none⟩), key] w fun e w' => ∃ v, e = .returned v ∧ RowO w' 3 v (imap (m key)) ∧ Chg NoM w w' := by
  obtain ⟨S, h1, h2⟩ := h
  exact Go.Proofs.Ytbgiljhppnafoaa.all_i S sb most m key kl w h1 hk hl
theorem St.len_s {B sb most : Nat} {w : World} {m : Value → List Int} {key : Value} {kl : Lit} (h : St 53 9 B w sb most m) (hk : keyOf Try.prog 9 key = some kl) :
    Calls Try.prog 22 #[.pointer (some ⟨sb, 0, none⟩), key] w fun e w' => e = .returned (.int .i64 (m key).length) ∧ w = w' := by
  obtain ⟨S, h1, h2⟩ := h
  exact Go.Proofs.Ytbgiljhppnafoaa.len_s S sb most m key kl w h1 hk

set_option maxHeartbeats 1000000 in
theorem lives_true (w : World) : Calls Try.prog 12 #[] w fun e w' => e = .returned (.bool true) ∧ Chg NoM w w' := by
  have hk := Lib.hid (key_s (s := ⟨#[120]⟩) (by decide))
  go_enter Try.func12, Try.ntmps12
  go_wp2_with fail
  refine (St.new_s w w 2 (by omega) (by omega) (Nat.le_refl _)).mono ?_
  rintro e w1 ⟨sb, rfl, hsb, hs1, hc1⟩
  have S1 := Lib.hid hs1
  have C1 := Lib.hid hc1
  clear hs1 hc1
  go_wp2_with fail
  refine (S1.out.note_yes_s C1.out.size hk.out (by simp) (by simp) (by omega)).mono ?_
  rintro e w2 ⟨rfl, hs2, hc2⟩
  have S2 := Lib.hid hs2
  have C2 := Lib.hid (C1.out.int hc2)
  clear hs2 hc2
  go_wp2_with fail
  refine (S2.out.note_yes_s C2.out.size hk.out (by simp [mset_same, noted]) (by simp [mset_same, noted]) (by omega)).mono ?_
  rintro e w3 ⟨rfl, hs3, hc3⟩
  have S3 := Lib.hid hs3
  have C3 := Lib.hid (C2.out.int hc3)
  clear hs3 hc3
  go_wp2_with fail
  refine (S3.out.note_no_s hk.out (by simp [mset_same, noted])).mono ?_
  rintro e w4 ⟨rfl, hc4⟩
  have S4 := Lib.hid (S3.out.chgNo hc4)
  have C4 := Lib.hid (C3.out.trans hc4)
  clear hc4
  go_wp2_with fail
  refine (S4.out.note_yes_s C4.out.size hk.out (by simp [mset_same, noted]) (by simp [mset_same, noted]) (by omega)).mono ?_
  rintro e w5 ⟨rfl, hs5, hc5⟩
  have S5 := Lib.hid hs5
  have C5 := Lib.hid (C4.out.int hc5)
  clear hs5 hc5
  go_wp2_with fail
  refine (S5.out.all_s hk.out (by simp [mset_same, noted])).mono ?_
  rintro e w6 ⟨v, rfl, hr, hc6⟩
  rw [mset_same, mset_same, mset_same] at hr
  obtain ⟨A, c, hv, _, _⟩ := hr.slice
  change v = .slice A 2 c at hv
  subst hv
  have HR : Hid (RowO w6 3 (.slice A [6, 7].length c) (imap [6, 7])) := hr
  have C6 := Lib.hid (C5.out.trans hc6)
  clear hr hc6
  go_wp2_with fail
  refine (same_true A _ c _ [6, 7] _ (HR.out.chgNo ((Chg.refl w6).alloc _)) ⟨_, 2, rfl, Nat.le_refl _, by simp [maxLen], (fun h => by cases h), fun _ => ⟨w6.heap.size, 0, _, rfl, blk_new w6 _, by simp, fun j u hj => by simpa [imap] using hj⟩⟩ (by simp)).mono ?_
  rintro e w7 ⟨rfl, hc7⟩
  go_wp2_with fail
  go_ret
  exact ⟨rfl, (C6.out.alloc _).trans hc7⟩
end Go.Proofs.Ytbgiljhppnafoaa
