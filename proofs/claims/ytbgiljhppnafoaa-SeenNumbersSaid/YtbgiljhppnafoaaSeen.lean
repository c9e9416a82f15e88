/- Contracts of package seen (layer 19), for texts and for numbers as things: New, Has, Note, All, Len, Forget. -/
import Derived.Test.YtbgiljhppnafoaaMapF
import Derived.Test.YtbgiljhppnafoaaRowO
import Derived.Test.YtbgiljhppnafoaaSig
namespace Go.Proofs.Ytbgiljhppnafoaa
set_option linter.unusedVariables false
set_option linter.unusedSimpArgs false
open Go.RowKit

theorem Try.info3 : (Try.prog.info? 3).map (fun i => (i.zero, i.size, i.bytes)) = some (some (.int .i64 0), 1, 8) := by kernel_rfl
theorem keyed9 : Maps.Keyed Try.prog 9 := Maps.string_keyed Try.underlying9
theorem keyed3 : Maps.Keyed Try.prog 3 := Maps.int_keyed Try.underlying3
theorem zero30 : ∀ w, (zeroValue 30).run Try.prog w = .ok (.slice none 0 0) w := fun w => by kernel_rfl

theorem wpList_look_run {P : Program} {w : World} {ops : Array Oper} {rest : List Oper} {o : Oper} {a : Act} {Q : Exit → Act → World → Prop} (hgd : o.guard = none) (m x : Operand) (t : TypeId) (c : Bool) (ho : o.op = .lookup t m x c)
    {u : Value} (hrun : (Instr.lookup t (a.eval m) (a.eval x) c).run P w = .ok u w) (hK : wpList P ops Q rest (a.put o.dst u) w) : wpList P ops Q (o :: rest) a w := by
  refine wpList_plain hgd fun K' hK' => ?_
  unfold Oper.wp
  simp only [execOp, ho, Sem.run_bind, Sem.run_pure, Result.andThen_ok, hrun]
  exact hK' _ _ hK

def imap (l : List Int) : List Value := l.map (.int .i64)
theorem imap_len (l : List Int) : (imap l).length = l.length := by simp [imap]
theorem imap_append (l m : List Int) : imap (l ++ m) = imap l ++ imap m := by simp [imap]
theorem imap_drop (l : List Int) (k : Nat) : imap (l.drop k) = (imap l).drop k := by simp [imap, List.map_drop]
theorem imap_one (l : List Int) : ∀ u ∈ imap l, u.oneCell' = true := by
  intro u hu
  obtain ⟨x, _, rfl⟩ := List.mem_map.1 hu
  rfl
theorem imap_get (l : List Int) (k : Nat) (x : Int) (h : l[k]? = some x) : (imap l)[k]? = some (.int .i64 x) := by simp [imap, h]

/-- What a memory of numbers is: its struct at sb, its map and rows in the blocks of S; m: what it knows. -/
def SeenAt (T kt : TypeId) (w : World) (S : Nat → Prop) (sb : Nat) (most : Nat) (m : Value → List Int) : Prop :=
  ∃ mb f, w.heap[sb]? = some (.cells #[.int .i64 most, .map (some mb)] T (0, 0)) ∧ MapAt Try.prog kt w mb f ∧ S mb ∧
    (∀ x, f x = none → m x = []) ∧ (∀ x u, f x = some u → RowO w 3 u (imap (m x)) ∧ ∀ g, rowBlk u = some g → S g) ∧
    (∀ x y u v g, f x = some u → f y = some v → rowBlk u = some g → rowBlk v = some g → x = y)
/-- What its methods may change. -/
def SeenM (S : Nat → Prop) : Nat → Obj → Prop := fun k o => S k ∧ ((∃ es c, o = .map es c) ∨ ∃ c f, o = .cells c 3 f)
theorem SeenM.ne {S : Nat → Prop} {k : Nat} {c : Array Value} {t : TypeId} {f : Nat × Nat} (h : t ≠ 3) : ¬ SeenM S k (.cells c t f) := by
  rintro ⟨_, ⟨_, _, h'⟩ | ⟨_, _, h'⟩⟩
  · cases h'
  · injection h' with _ h'; exact h h'
def grow (S : Nat → Prop) (w w' : World) : Nat → Prop := fun g => S g ∨ (w.heap.size ≤ g ∧ g < w'.heap.size)
theorem SeenAt.chg {T kt : TypeId} {w w' : World} {S : Nat → Prop} {sb most : Nat} {m : Value → List Int} {M : Nat → Obj → Prop} (h : SeenAt T kt w S sb most m) (hc : Chg M w w')
    (h1 : ∀ k, S k → (∀ es c, ¬ M k (.map es c)) ∧ ∀ c f, ¬ M k (.cells c 3 f)) (h2 : ∀ c f, ¬ M sb (.cells c T f)) : SeenAt T kt w' S sb most m := by
  obtain ⟨mb, f, a1, a2, a3, a4, a5, a6⟩ := h
  exact ⟨mb, f, hc.block _ _ a1 (h2 _ _), a2.chg hc (h1 _ a3).1, a3, a4, fun x u hx => ⟨(a5 x u hx).1.chg hc (fun g c f hg => (h1 g ((a5 x u hx).2 g hg)).2 c f), (a5 x u hx).2⟩, a6⟩
theorem SeenAt.chgNo {T kt : TypeId} {w w' : World} {S : Nat → Prop} {sb most : Nat} {m : Value → List Int} (h : SeenAt T kt w S sb most m) (hc : Chg NoM w w') : SeenAt T kt w' S sb most m :=
  h.chg hc (fun _ _ => ⟨fun _ _ h => h, fun _ _ h => h⟩) (fun _ _ h => h)
theorem SeenAt.lt {T kt : TypeId} {w : World} {S : Nat → Prop} {sb most : Nat} {m : Value → List Int} (h : SeenAt T kt w S sb most m) : sb < w.heap.size := by
  obtain ⟨mb, f, a1, _⟩ := h
  exact lt_of_blk a1
theorem SeenAt.mono {T kt : TypeId} {w : World} {S S' : Nat → Prop} {sb most : Nat} {m : Value → List Int} (h : SeenAt T kt w S sb most m) (hs : ∀ g, S g → S' g) : SeenAt T kt w S' sb most m := by
  obtain ⟨mb, f, a1, a2, a3, a4, a5, a6⟩ := h
  exact ⟨mb, f, a1, a2, hs _ a3, a4, fun x u hx => ⟨(a5 x u hx).1, fun g hg => hs _ ((a5 x u hx).2 g hg)⟩, a6⟩
/-- What lies at a key. -/
theorem SeenAt.look {T kt M : TypeId} {w : World} {S : Nat → Prop} {sb most : Nat} {m : Value → List Int} (h : SeenAt T kt w S sb most m) (K : Maps.Keyed Try.prog kt) (ht : Try.prog.underlying M = some (.map kt 30)) {key : Value} {kl : Lit} (hkey : keyOf Try.prog kt key = some kl) :
    ∃ mb A c, w.heap[sb]? = some (.cells #[.int .i64 most, .map (some mb)] T (0, 0)) ∧ RowO w 3 (.slice A (m key).length c) (imap (m key)) ∧ ∀ W, Chg NoM w W → (Instr.lookup M (.map (some mb)) key false).run Try.prog W = .ok (.slice A (m key).length c) W := by
  obtain ⟨mb, f, a1, a2, a3, a4, a5, a6⟩ := h
  have hrow : RowO w 3 ((f key).getD (.slice none 0 0)) (imap (m key)) := by
    cases hf : f key with
    | none => rw [a4 key hf]; exact RowO.nil _ _
    | some u => exact (a5 key u hf).1
  obtain ⟨A, c, hv, _, _⟩ := hrow.slice
  rw [imap_len] at hv
  rw [hv] at hrow
  exact ⟨mb, A, c, a1, hrow, fun W hW => by rw [(a2.chgNo hW).look K ht zero30 hkey false, ← hv]; rfl⟩

theorem new_yes_s (n : Nat) (w : World) (h1 : 1 ≤ n) (h2 : n ≤ 1000) :
    Calls Try.prog 9 #[.int .i64 n] w fun e w' => e = .returned (.tuple #[.pointer (some ⟨w.heap.size + 1, 0, none⟩), .int .i64 0]) ∧ SeenAt 53 9 w' (fun g => g = w.heap.size) (w.heap.size + 1) n (fun _ => []) ∧ w'.heap.size = w.heap.size + 2 ∧ Chg NoM w w' := by
  have hmm := @run_makeMap Try.prog
  go_enter Try.func9, Try.ntmps9
  go_wp2
  go_ret2
  have h := blk_new (w.alloc (.map #[] 0)) (.cells #[.int .i64 n, .map (some w.heap.size)] 53)
  rw [show (w.alloc (.map #[] 0)).heap.size = w.heap.size + 1 by simp] at h
  exact ⟨rfl, ⟨w.heap.size, fun _ => none, h, (MapAt.new Try.prog 9 w).chgNo ((Chg.refl _).alloc _), rfl, fun _ _ => rfl, (fun _ _ h => by cases h), (fun _ _ _ _ _ h => by cases h)⟩, by simp, ((Chg.refl w).alloc _).alloc _⟩
theorem new_no_s (n : Int) (w : World) (h : n < 1 ∨ 1000 < n) :
    Calls Try.prog 9 #[.int .i64 n] w fun e w' => e = .returned (.tuple #[.pointer none, .int .i64 1]) ∧ w = w' := by
  rcases h with h | h
  · go_enter Try.func9, Try.ntmps9
    go_wp2
    go_ret2
    exact ⟨rfl, rfl⟩
  · have h' : ¬ n < 1 := by omega
    go_enter Try.func9, Try.ntmps9
    go_wp2
    go_ret2
    exact ⟨rfl, rfl⟩
theorem clos_s (x n : Int) (b : Nat) (w : World) (hb : w.heap[b]? = some (.cells #[.int .i64 n] 3 (0, 0))) :
    Calls Try.prog 25 #[.int .i64 x, .pointer (some ⟨b, 0, none⟩)] w fun e w' => e = .returned (.bool (x == n)) ∧ w = w' := by
  have c0 := blk_cell hb 0
  go_enter Try.func25, Try.ntmps25
  go_wp2
  go_ret
  exact ⟨rfl, rfl⟩
theorem idx_s (l : List Int) (n : Int) (b : Nat) (A : Option Addr) (c : Nat) (w : World) (hl : RowO w 3 (.slice A l.length c) (imap l)) (hb : w.heap[b]? = some (.cells #[.int .i64 n] 3 (0, 0))) :
    Calls Try.prog 29 #[.slice A l.length c, .func (.func 25) #[] #[.pointer (some ⟨b, 0, none⟩)]] w fun e w' => (∃ z : Int, e = .returned (.int .i64 z) ∧ (0 ≤ z ↔ n ∈ l)) ∧ w = w' := by
  have HL := Lib.hid hl
  have lc : l.length ≤ 9223372036854775807 := by
    obtain ⟨_, _, he, h1, h2⟩ := hl.slice
    rw [imap_len] at h1
    simp only [maxLen] at h2
    omega
  clear hl
  go_enter Try.func29, Try.ntmps29
  go_wp2_with fail
  go_loop [8] (fun i => ∃ k : Nat, k ≤ l.length ∧ i = .int .i64 k ∧ Hid (∀ x ∈ l.take k, x ≠ n)) (fun i => l.length - (intOf i).toNat)
  case atStart => exact ⟨0, by omega, rfl, fun x hx => by simp at hx⟩
  case round =>
    obtain ⟨k, hk, rfl, HT⟩ := hrel
    by_cases hlt : k < l.length
    · obtain ⟨g, off, rfl, _, hc⟩ := HL.out.at (by rw [imap_len]; omega)
      have e0 := hc k _ (imap_get l k _ (List.getElem?_eq_getElem hlt))
      obtain ⟨x, hx⟩ : ∃ x, x = l[k] := ⟨_, rfl⟩
      rw [← hx] at e0
      have HX := Lib.hid hx
      clear hx hc
      by_cases hxn : x = n
      · have HXN := Lib.hid hxn
        have hbq : (x == n) = true := by simp [hxn]
        clear hxn
        go_wp2_with fail
        refine (clos_s x n b w hb).mono ?_
        rintro e w' ⟨rfl, rfl⟩
        rw [hbq]
        go_wp2_with fail
        go_ret
        have hxn := HXN.out
        rw [HX.out] at hxn
        exact ⟨⟨k, rfl, ⟨fun _ => hxn ▸ List.getElem_mem hlt, fun _ => by omega⟩⟩, rfl⟩
      · have HXN := Lib.hid hxn
        have hbq : (x == n) = false := by simp [hxn]
        clear hxn
        go_wp2_with fail
        refine (clos_s x n b w hb).mono ?_
        rintro e w' ⟨rfl, rfl⟩
        rw [hbq]
        go_wp2_with fail
        go_round
        case rel =>
          refine ⟨k + 1, by omega, by go_num, fun y hy => ?_⟩
          rw [List.take_succ_eq_append_getElem hlt] at hy
          rcases List.mem_append.1 hy with h | h
          · exact HT.out y h
          · simp at h
            rw [h, ← HX.out]
            exact HXN.out
        case measure => simp [intOf]; omega
    · obtain rfl : l.length = k := by omega
      go_wp2_with fail
      go_ret
      refine ⟨⟨-1, rfl, ?_⟩, rfl⟩
      have := HT.out
      rw [List.take_length] at this
      exact ⟨fun h => by omega, fun h => absurd rfl (this n h)⟩
theorem cont_yes_s (l : List Int) (n : Int) (b : Nat) (A : Option Addr) (c : Nat) (w : World) (hl : RowO w 3 (.slice A l.length c) (imap l)) (hb : w.heap[b]? = some (.cells #[.int .i64 n] 3 (0, 0))) (hn : n ∈ l) :
    Calls Try.prog 26 #[.slice A l.length c, .func (.func 25) #[] #[.pointer (some ⟨b, 0, none⟩)]] w fun e w' => e = .returned (.bool true) ∧ w = w' := by
  have H := Lib.hid (idx_s l n b A c w hl hb)
  clear hl hb
  go_enter Try.func26, Try.ntmps26
  go_wp2_with fail
  refine H.out.mono ?_
  rintro e w' ⟨⟨z, rfl, hz⟩, rfl⟩
  have z0 : decide (0 ≤ z) = true := by simpa using hz.2 hn
  clear hz
  go_wp2_with fail
  go_ret
  exact ⟨rfl, rfl⟩
theorem cont_no_s (l : List Int) (n : Int) (b : Nat) (A : Option Addr) (c : Nat) (w : World) (hl : RowO w 3 (.slice A l.length c) (imap l)) (hb : w.heap[b]? = some (.cells #[.int .i64 n] 3 (0, 0))) (hn : n ∉ l) :
    Calls Try.prog 26 #[.slice A l.length c, .func (.func 25) #[] #[.pointer (some ⟨b, 0, none⟩)]] w fun e w' => e = .returned (.bool false) ∧ w = w' := by
  have H := Lib.hid (idx_s l n b A c w hl hb)
  clear hl hb
  go_enter Try.func26, Try.ntmps26
  go_wp2_with fail
  refine H.out.mono ?_
  rintro e w' ⟨⟨z, rfl, hz⟩, rfl⟩
  have z0 : decide (0 ≤ z) = false := by simpa using fun h => hn (hz.1 h)
  clear hz
  go_wp2_with fail
  go_ret
  exact ⟨rfl, rfl⟩
theorem has_yes_s (S : Nat → Prop) (sb most : Nat) (m : Value → List Int) (key : Value) (kl : Lit) (n : Int) (w : World) (hS : SeenAt 53 9 w S sb most m) (hkey : keyOf Try.prog 9 key = some kl) (hn : n ∈ m key) :
    Calls Try.prog 11 #[.pointer (some ⟨sb, 0, none⟩), key, .int .i64 n] w fun e w' => e = .returned (.bool true) ∧ Chg NoM w w' := by
  obtain ⟨mb, A, c, hb, hrow, hlook⟩ := hS.look keyed9 Try.underlying51 hkey
  have k1 : w.cell? ⟨sb, 1, none⟩ = some (.map (some mb)) := blk_cell hb 1
  have sl := lt_of_blk hb
  have ne : sb ≠ w.heap.size := by omega
  have HR := Lib.hid hrow
  have HK := Lib.hid hlook
  clear hrow hlook hb hS hkey
  go_enter Try.func11, Try.ntmps11
  go_wp2_with (refine wpList_look_run rfl (.tmp 12) (.tmp 13) 51 false rfl (HK.out _ ((Chg.refl w).alloc _)) ?_)
  refine (cont_yes_s (m key) n w.heap.size A c _ (HR.out.chgNo ((Chg.refl w).alloc _)) (blk_new w _) hn).mono ?_
  rintro e w' ⟨rfl, rfl⟩
  go_wp2_with fail
  go_ret
  exact ⟨rfl, (Chg.refl w).alloc _⟩
theorem has_no_s (S : Nat → Prop) (sb most : Nat) (m : Value → List Int) (key : Value) (kl : Lit) (n : Int) (w : World) (hS : SeenAt 53 9 w S sb most m) (hkey : keyOf Try.prog 9 key = some kl) (hn : n ∉ m key) :
    Calls Try.prog 11 #[.pointer (some ⟨sb, 0, none⟩), key, .int .i64 n] w fun e w' => e = .returned (.bool false) ∧ Chg NoM w w' := by
  obtain ⟨mb, A, c, hb, hrow, hlook⟩ := hS.look keyed9 Try.underlying51 hkey
  have k1 : w.cell? ⟨sb, 1, none⟩ = some (.map (some mb)) := blk_cell hb 1
  have sl := lt_of_blk hb
  have ne : sb ≠ w.heap.size := by omega
  have HR := Lib.hid hrow
  have HK := Lib.hid hlook
  clear hrow hlook hb hS hkey
  go_enter Try.func11, Try.ntmps11
  go_wp2_with (refine wpList_look_run rfl (.tmp 12) (.tmp 13) 51 false rfl (HK.out _ ((Chg.refl w).alloc _)) ?_)
  refine (cont_no_s (m key) n w.heap.size A c _ (HR.out.chgNo ((Chg.refl w).alloc _)) (blk_new w _) hn).mono ?_
  rintro e w' ⟨rfl, rfl⟩
  go_wp2_with fail
  go_ret
  exact ⟨rfl, (Chg.refl w).alloc _⟩
theorem new_yes_i (n : Nat) (w : World) (h1 : 1 ≤ n) (h2 : n ≤ 1000) :
    Calls Try.prog 13 #[.int .i64 n] w fun e w' => e = .returned (.tuple #[.pointer (some ⟨w.heap.size + 1, 0, none⟩), .int .i64 0]) ∧ SeenAt 57 3 w' (fun g => g = w.heap.size) (w.heap.size + 1) n (fun _ => []) ∧ w'.heap.size = w.heap.size + 2 ∧ Chg NoM w w' := by
  have hmm := @run_makeMap Try.prog
  go_enter Try.func13, Try.ntmps13
  go_wp2
  go_ret2
  have h := blk_new (w.alloc (.map #[] 0)) (.cells #[.int .i64 n, .map (some w.heap.size)] 57)
  rw [show (w.alloc (.map #[] 0)).heap.size = w.heap.size + 1 by simp] at h
  exact ⟨rfl, ⟨w.heap.size, fun _ => none, h, (MapAt.new Try.prog 3 w).chgNo ((Chg.refl _).alloc _), rfl, fun _ _ => rfl, (fun _ _ h => by cases h), (fun _ _ _ _ _ h => by cases h)⟩, by simp, ((Chg.refl w).alloc _).alloc _⟩
theorem new_no_i (n : Int) (w : World) (h : n < 1 ∨ 1000 < n) :
    Calls Try.prog 13 #[.int .i64 n] w fun e w' => e = .returned (.tuple #[.pointer none, .int .i64 1]) ∧ w = w' := by
  rcases h with h | h
  · go_enter Try.func13, Try.ntmps13
    go_wp2
    go_ret2
    exact ⟨rfl, rfl⟩
  · have h' : ¬ n < 1 := by omega
    go_enter Try.func13, Try.ntmps13
    go_wp2
    go_ret2
    exact ⟨rfl, rfl⟩
theorem clos_i (x n : Int) (b : Nat) (w : World) (hb : w.heap[b]? = some (.cells #[.int .i64 n] 3 (0, 0))) :
    Calls Try.prog 30 #[.int .i64 x, .pointer (some ⟨b, 0, none⟩)] w fun e w' => e = .returned (.bool (x == n)) ∧ w = w' := by
  have c0 := blk_cell hb 0
  go_enter Try.func30, Try.ntmps30
  go_wp2
  go_ret
  exact ⟨rfl, rfl⟩
theorem idx_i (l : List Int) (n : Int) (b : Nat) (A : Option Addr) (c : Nat) (w : World) (hl : RowO w 3 (.slice A l.length c) (imap l)) (hb : w.heap[b]? = some (.cells #[.int .i64 n] 3 (0, 0))) :
    Calls Try.prog 29 #[.slice A l.length c, .func (.func 30) #[] #[.pointer (some ⟨b, 0, none⟩)]] w fun e w' => (∃ z : Int, e = .returned (.int .i64 z) ∧ (0 ≤ z ↔ n ∈ l)) ∧ w = w' := by
  have HL := Lib.hid hl
  have lc : l.length ≤ 9223372036854775807 := by
    obtain ⟨_, _, he, h1, h2⟩ := hl.slice
    rw [imap_len] at h1
    simp only [maxLen] at h2
    omega
  clear hl
  go_enter Try.func29, Try.ntmps29
  go_wp2_with fail
  go_loop [8] (fun i => ∃ k : Nat, k ≤ l.length ∧ i = .int .i64 k ∧ Hid (∀ x ∈ l.take k, x ≠ n)) (fun i => l.length - (intOf i).toNat)
  case atStart => exact ⟨0, by omega, rfl, fun x hx => by simp at hx⟩
  case round =>
    obtain ⟨k, hk, rfl, HT⟩ := hrel
    by_cases hlt : k < l.length
    · obtain ⟨g, off, rfl, _, hc⟩ := HL.out.at (by rw [imap_len]; omega)
      have e0 := hc k _ (imap_get l k _ (List.getElem?_eq_getElem hlt))
      obtain ⟨x, hx⟩ : ∃ x, x = l[k] := ⟨_, rfl⟩
      rw [← hx] at e0
      have HX := Lib.hid hx
      clear hx hc
      by_cases hxn : x = n
      · have HXN := Lib.hid hxn
        have hbq : (x == n) = true := by simp [hxn]
        clear hxn
        go_wp2_with fail
        refine (clos_i x n b w hb).mono ?_
        rintro e w' ⟨rfl, rfl⟩
        rw [hbq]
        go_wp2_with fail
        go_ret
        have hxn := HXN.out
        rw [HX.out] at hxn
        exact ⟨⟨k, rfl, ⟨fun _ => hxn ▸ List.getElem_mem hlt, fun _ => by omega⟩⟩, rfl⟩
      · have HXN := Lib.hid hxn
        have hbq : (x == n) = false := by simp [hxn]
        clear hxn
        go_wp2_with fail
        refine (clos_i x n b w hb).mono ?_
        rintro e w' ⟨rfl, rfl⟩
        rw [hbq]
        go_wp2_with fail
        go_round
        case rel =>
          refine ⟨k + 1, by omega, by go_num, fun y hy => ?_⟩
          rw [List.take_succ_eq_append_getElem hlt] at hy
          rcases List.mem_append.1 hy with h | h
          · exact HT.out y h
          · simp at h
            rw [h, ← HX.out]
            exact HXN.out
        case measure => simp [intOf]; omega
    · obtain rfl : l.length = k := by omega
      go_wp2_with fail
      go_ret
      refine ⟨⟨-1, rfl, ?_⟩, rfl⟩
      have := HT.out
      rw [List.take_length] at this
      exact ⟨fun h => by omega, fun h => absurd rfl (this n h)⟩
theorem cont_yes_i (l : List Int) (n : Int) (b : Nat) (A : Option Addr) (c : Nat) (w : World) (hl : RowO w 3 (.slice A l.length c) (imap l)) (hb : w.heap[b]? = some (.cells #[.int .i64 n] 3 (0, 0))) (hn : n ∈ l) :
    Calls Try.prog 26 #[.slice A l.length c, .func (.func 30) #[] #[.pointer (some ⟨b, 0, none⟩)]] w fun e w' => e = .returned (.bool true) ∧ w = w' := by
  have H := Lib.hid (idx_i l n b A c w hl hb)
  clear hl hb
  go_enter Try.func26, Try.ntmps26
  go_wp2_with fail
  refine H.out.mono ?_
  rintro e w' ⟨⟨z, rfl, hz⟩, rfl⟩
  have z0 : decide (0 ≤ z) = true := by simpa using hz.2 hn
  clear hz
  go_wp2_with fail
  go_ret
  exact ⟨rfl, rfl⟩
theorem cont_no_i (l : List Int) (n : Int) (b : Nat) (A : Option Addr) (c : Nat) (w : World) (hl : RowO w 3 (.slice A l.length c) (imap l)) (hb : w.heap[b]? = some (.cells #[.int .i64 n] 3 (0, 0))) (hn : n ∉ l) :
    Calls Try.prog 26 #[.slice A l.length c, .func (.func 30) #[] #[.pointer (some ⟨b, 0, none⟩)]] w fun e w' => e = .returned (.bool false) ∧ w = w' := by
  have H := Lib.hid (idx_i l n b A c w hl hb)
  clear hl hb
  go_enter Try.func26, Try.ntmps26
  go_wp2_with fail
  refine H.out.mono ?_
  rintro e w' ⟨⟨z, rfl, hz⟩, rfl⟩
  have z0 : decide (0 ≤ z) = false := by simpa using fun h => hn (hz.1 h)
  clear hz
  go_wp2_with fail
  go_ret
  exact ⟨rfl, rfl⟩
theorem has_yes_i (S : Nat → Prop) (sb most : Nat) (m : Value → List Int) (key : Value) (kl : Lit) (n : Int) (w : World) (hS : SeenAt 57 3 w S sb most m) (hkey : keyOf Try.prog 3 key = some kl) (hn : n ∈ m key) :
    Calls Try.prog 27 #[.pointer (some ⟨sb, 0, none⟩), key, .int .i64 n] w fun e w' => e = .returned (.bool true) ∧ Chg NoM w w' := by
  obtain ⟨mb, A, c, hb, hrow, hlook⟩ := hS.look keyed3 Try.underlying55 hkey
  have k1 : w.cell? ⟨sb, 1, none⟩ = some (.map (some mb)) := blk_cell hb 1
  have sl := lt_of_blk hb
  have ne : sb ≠ w.heap.size := by omega
  have HR := Lib.hid hrow
  have HK := Lib.hid hlook
  clear hrow hlook hb hS hkey
  go_enter Try.func27, Try.ntmps27
  go_wp2_with (refine wpList_look_run rfl (.tmp 12) (.tmp 13) 55 false rfl (HK.out _ ((Chg.refl w).alloc _)) ?_)
  refine (cont_yes_i (m key) n w.heap.size A c _ (HR.out.chgNo ((Chg.refl w).alloc _)) (blk_new w _) hn).mono ?_
  rintro e w' ⟨rfl, rfl⟩
  go_wp2_with fail
  go_ret
  exact ⟨rfl, (Chg.refl w).alloc _⟩
theorem has_no_i (S : Nat → Prop) (sb most : Nat) (m : Value → List Int) (key : Value) (kl : Lit) (n : Int) (w : World) (hS : SeenAt 57 3 w S sb most m) (hkey : keyOf Try.prog 3 key = some kl) (hn : n ∉ m key) :
    Calls Try.prog 27 #[.pointer (some ⟨sb, 0, none⟩), key, .int .i64 n] w fun e w' => e = .returned (.bool false) ∧ Chg NoM w w' := by
  obtain ⟨mb, A, c, hb, hrow, hlook⟩ := hS.look keyed3 Try.underlying55 hkey
  have k1 : w.cell? ⟨sb, 1, none⟩ = some (.map (some mb)) := blk_cell hb 1
  have sl := lt_of_blk hb
  have ne : sb ≠ w.heap.size := by omega
  have HR := Lib.hid hrow
  have HK := Lib.hid hlook
  clear hrow hlook hb hS hkey
  go_enter Try.func27, Try.ntmps27
  go_wp2_with (refine wpList_look_run rfl (.tmp 12) (.tmp 13) 55 false rfl (HK.out _ ((Chg.refl w).alloc _)) ?_)
  refine (cont_no_i (m key) n w.heap.size A c _ (HR.out.chgNo ((Chg.refl w).alloc _)) (blk_new w _) hn).mono ?_
  rintro e w' ⟨rfl, rfl⟩
  go_wp2_with fail
  go_ret
  exact ⟨rfl, (Chg.refl w).alloc _⟩
end Go.Proofs.Ytbgiljhppnafoaa
