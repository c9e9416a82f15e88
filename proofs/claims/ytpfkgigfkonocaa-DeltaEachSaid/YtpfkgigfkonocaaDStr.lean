/- Lists of strings: Few, slices.Index, slices.Delete, SameTexts (delta seat). -/
import Derived.Test.YtpfkgigfkonocaaClockD
import Derived.Test.YtpfkgigfkonocaaSig
import Derived.Test.YtpfkgigfkonocaaRowO
import Derived.Test.YtpfkgigfkonocaaOpenB
namespace Go.Proofs.Ytpfkgigfkonocaa
set_option linter.unusedVariables false
set_option linter.unusedSimpArgs false
open Go.RowKit

theorem Try.info9 : (Try.prog.info? 9).map (fun i => (i.zero, i.size, i.bytes)) = some (some (.string .empty), 1, 16) := by kernel_rfl
def scells (l : List ByteArray) : List Value := l.map .string
theorem scells_len (l : List ByteArray) : (scells l).length = l.length := by simp [scells]
theorem scells_append (l m : List ByteArray) : scells (l ++ m) = scells l ++ scells m := by simp [scells]
theorem scells_one (l : List ByteArray) : ∀ u ∈ scells l, u.oneCell' = true := by
  intro u hu
  simp only [scells, List.mem_map] at hu
  obtain ⟨x, _, rfl⟩ := hu
  rfl
theorem scells_get (l : List ByteArray) (k : Nat) (x : ByteArray) (h : l[k]? = some x) : (scells l)[k]? = some (.string x) := by simp [scells, h]
theorem toList_ne {a b : ByteArray} (h : a ≠ b) : (a.toList == b.toList) = false := by
  rw [Bool.eq_false_iff]
  intro e
  rw [beq_iff_eq, ByteArray.toList_eq, ByteArray.toList_eq] at e
  exact h (WideShapes.bytes_inj e)
theorem toList_eq {a b : ByteArray} (h : a = b) : (a.toList == b.toList) = true := by rw [h]; exact beq_self_eq_true _
/-- Strings that can be read. -/
def SO (w : World) (A : Option Addr) (l : List ByteArray) : Prop := 0 < l.length → ∃ g off, A = some ⟨g, off, none⟩ ∧ ∀ j s, l[j]? = some s → w.cell? ⟨g, off + j, none⟩ = some (.string s)
theorem SO.chgNo {w w' : World} {A : Option Addr} {l : List ByteArray} (h : SO w A l) (hc : Chg NoM w w') : SO w' A l := by
  intro h0
  obtain ⟨g, off, hA, hcell⟩ := h h0
  exact ⟨g, off, hA, fun j u hu => hc.cellNo (hcell j u hu)⟩
theorem SO.chg {M : Nat → Obj → Prop} {w w' : World} {A : Option Addr} {l : List ByteArray} (h : SO w A l) (hc : Chg M w w') (hm : ∀ g off o, A = some ⟨g, off, none⟩ → w.heap[g]? = some o → ¬ M g o) : SO w' A l := by
  intro h0
  obtain ⟨g, off, hA, hcell⟩ := h h0
  exact ⟨g, off, hA, fun j u hu => hc.cell (hcell j u hu) (fun o ho => hm g off o hA ho)⟩
theorem SO.at {w : World} {A : Option Addr} {l : List ByteArray} (h : SO w A l) (k : Nat) (p : ByteArray) (hp : l[k]? = some p) :
    ∃ g off, A = some ⟨g, off, none⟩ ∧ w.cell? ⟨g, off + k, none⟩ = some (.string p) := by
  have hlt := (List.getElem?_eq_some_iff.1 hp).1
  obtain ⟨g, off, hA, hcell⟩ := h (by omega)
  exact ⟨g, off, hA, hcell k p hp⟩
theorem SO.ofRow {w : World} {base n c : Nat} {A : Option Addr} {l : List ByteArray} (h : Row w base 9 1 (.slice A n c) n (scells l)) : SO w A l := by
  intro h0
  have hn : 0 < n := by have := h.1; rw [scells_len] at this; omega
  obtain ⟨g, cap, he, _, _, _, _, hc⟩ := h.cells hn
  cases he
  exact ⟨g, 0, rfl, fun j s hs => by rw [Nat.zero_add]; exact hc j _ (scells_get l j s hs)⟩
theorem SO.ofRows {w : World} {A : Option Addr} {l : List ByteArray} {R : World → ByteArray → List Value → Prop} (hR : ∀ d c, R w d c → c = [.string d]) (h : RowsAt R 1 w A l) : SO w A l := by
  intro h0
  obtain ⟨b, off, hA, hall⟩ := h.2.2 h0
  refine ⟨b, off, hA, fun j s hs => ?_⟩
  obtain ⟨c, hc, _, hcell⟩ := hall j s hs
  have := hR s c hc
  subst this
  have := hcell 0 _ rfl
  rwa [Nat.mul_one, Nat.add_zero] at this

def fewS (s : ByteArray) (m : Nat) : ByteArray := if m < s.size then s.extract 0 m else s
theorem fewS_size (s : ByteArray) (m : Nat) : (fewS s m).size ≤ m := by
  unfold fewS
  split
  · simp; omega
  · omega
set_option maxHeartbeats 400000 in
theorem few_any (s : ByteArray) (m : Nat) (w : World) (hs : s.size ≤ 9223372036854775807) (hm : m ≤ 1000) :
    Calls Try.prog 9 #[.string s, .int .i64 m] w fun e w' => e = .returned (.string (fewS s m)) ∧ w = w' := by
  by_cases h : m < s.size
  · have e : Hid (fewS s m = s.extract 0 m) := by unfold fewS; rw [if_pos h]; rfl
    have h' : (m : Int) < (s.size : Int) := by omega
    go_enter Try.func9, Try.ntmps9
    go_wp2
    go_ret
    exact ⟨by rw [e.out]; simp, rfl⟩
  · have e : Hid (fewS s m = s) := by unfold fewS; rw [if_neg h]; rfl
    have h' : ¬ (m : Int) < (s.size : Int) := by omega
    go_enter Try.func9, Try.ntmps9
    go_wp2
    go_ret
    exact ⟨by rw [e.out]; simp, rfl⟩
set_option maxHeartbeats 1000000 in
/-- slices.Index, of a string that is there. -/
theorem index_at (A : Option Addr) (c : Nat) (l : List ByteArray) (s : ByteArray) (k : Nat) (w : World) (hl : SO w A l) (hn : l.length ≤ 1000) (hk : l[k]? = some s) (hf : ∀ j, j < k → l[j]? ≠ some s) :
    Calls Try.prog 26 #[.slice A l.length c, .string s] w fun e w' => e = .returned (.int .i64 k) ∧ w = w' := by
  have HL := Lib.hid hl
  have HK := Lib.hid hk
  have HF := Lib.hid hf
  have klt : k < l.length := (List.getElem?_eq_some_iff.1 hk).1
  clear hl hk hf
  go_enter Try.func26, Try.ntmps26
  go_wp2_with fail
  go_loopw [8] (fun i wr => ∃ j : Nat, j ≤ k ∧ i = .int .i64 j ∧ w = wr) (fun i _ => l.length - (intOf i).toNat)
  case atStart => exact ⟨0, by omega, rfl, rfl⟩
  case round =>
    obtain ⟨j, hj, rfl, rfl⟩ := hrel
    have i1 : (j : Int) < (l.length : Int) := by omega
    have i0 : (0 : Int) ≤ (j : Int) := by omega
    obtain ⟨p, hp⟩ : ∃ p, l[j]? = some p := ⟨_, List.getElem?_eq_getElem (by omega)⟩
    obtain ⟨g, off, rfl, e0⟩ := HL.out.at j p hp
    by_cases he : j = k
    · subst he
      rw [HK.out] at hp
      cases hp
      have hq := toList_eq (a := s) rfl
      go_wp2_with fail
      go_ret
      exact ⟨rfl, rfl⟩
    · have hne : s ≠ p := fun h => HF.out j (by omega) (by rw [hp, h])
      have hq := toList_ne hne
      clear hp hne
      go_wp2_with fail
      exact ⟨⟨j + 1, by omega, by go_num, trivial⟩, by simp [intOf]; omega⟩
set_option maxHeartbeats 1000000 in
/-- SameTexts, of equal lists. -/
theorem same_texts (A A2 : Option Addr) (c c2 : Nat) (l : List ByteArray) (w : World) (h1 : SO w A l) (h2 : SO w A2 l) (hn : l.length ≤ 1000) :
    Calls Try.prog 13 #[.slice A l.length c, .slice A2 l.length c2] w fun e w' => e = .returned (.bool true) ∧ Chg NoM w w' := by
  have H1 := Lib.hid h1
  have H2 := Lib.hid h2
  clear h1 h2
  go_enter Try.func13, Try.ntmps13
  go_wp2_with fail
  go_loopw [5] (fun i wr => ∃ k : Nat, k ≤ l.length ∧ i = .int .i64 k ∧ Hid (Chg NoM w wr)) (fun i _ => l.length - (intOf i).toNat)
  case atStart => exact ⟨0, by omega, rfl, Chg.refl w⟩
  case round =>
    obtain ⟨k, hk, rfl, C⟩ := hrel
    by_cases hlt : k < l.length
    · obtain ⟨p, hp⟩ : ∃ p, l[k]? = some p := ⟨_, List.getElem?_eq_getElem hlt⟩
      obtain ⟨g, off, rfl, e0⟩ := (H1.out.chgNo C.out).at k p hp
      obtain ⟨g2, off2, rfl, e1⟩ := (H2.out.chgNo C.out).at k p hp
      have hq := toList_eq (a := p) rfl
      clear hp
      have i0 : (0 : Int) ≤ (k : Int) := by omega
      have i1 : (k : Int) < (l.length : Int) := by omega
      go_wp2_with fail
      go_quiet (fail)
      go_wp2_with fail
      exact ⟨⟨k + 1, by omega, by go_num, C.out.drewN _⟩, by simp [intOf]; omega⟩
    · go_wp2_with fail
      go_ret
      exact ⟨rfl, C.out⟩

/-- A row of strings, its block and capacity told. -/
def SAt (w : World) (g c : Nat) (l : List ByteArray) : Prop :=
  ∃ cur : Array Value, w.heap[g]? = some (.cells cur 9 (0, 0)) ∧ l.length ≤ c ∧ c ≤ maxLen ∧ c ≤ cur.size ∧ ∀ (j : Nat) (s : ByteArray), l[j]? = some s → cur[j]? = some (Value.string s)
theorem SAt.row {w : World} {g c base : Nat} {l : List ByteArray} (h : SAt w g c l) (hb : base ≤ g) : Row w base 9 1 (.slice (some ⟨g, 0, none⟩) l.length c) l.length (scells l) := by
  obtain ⟨cur, h1, h2, h3, h4, h5⟩ := h
  refine ⟨by rw [scells_len]; omega, .inr ⟨g, c, cur, rfl, hb, h1, h2, h3, by omega, ?_⟩⟩
  apply List.ext_getElem?
  intro j
  rw [List.getElem?_take, Nat.mul_one]
  split
  · rename_i hj
    rw [scells_get l j _ (List.getElem?_eq_getElem hj)]
    simpa using h5 j _ (List.getElem?_eq_getElem hj)
  · rename_i hj
    rw [List.getElem?_eq_none (by rw [scells_len]; omega)]
theorem SAt.of {w : World} {g c base n : Nat} {l : List ByteArray} (h : Row w base 9 1 (.slice (some ⟨g, 0, none⟩) n c) n (scells l)) : SAt w g c l ∧ base ≤ g ∧ n = l.length := by
  have hl := h.1
  rw [scells_len, Nat.mul_one] at hl
  rcases h.2 with ⟨he, _⟩ | ⟨g', c', cur, he, hb, h1, h2, h3, h4, h5⟩
  · injection he with he; cases he
  · injection he with e1 e2 e3
    injection e1 with e1
    injection e1 with e1
    subst e1
    subst e3
    refine ⟨⟨cur, h1, by omega, h3, by omega, fun j s hs => ?_⟩, hb, by omega⟩
    have := scells_get l j s hs
    rw [← h5, List.getElem?_take] at this
    split at this
    · simpa using this
    · cases this
def GM9 (g : Nat) : Nat → Obj → Prop := fun k o => k = g ∧ ∃ cs f, o = .cells cs 9 f
/-- append(s[:k], s[k+1:]...), in place. -/
theorem run_shift {P : Program} (w : World) (t ty : TypeId) (i : TypeInfo) (ht : P.underlying t = some (.slice 9)) (hi : P.info? 9 = some i) (hs : i.size = 1) (g c : Nat) (l : List ByteArray) (h : SAt w g c l) (k : Nat) (h0 : k < l.length)
    (A' : Option Addr) (hA : A' = (if c = k + 1 then some ⟨g, 0, none⟩ else (some (⟨g, 0, none⟩ : Addr)).map (·.add ((k + 1) * 1)))) :
    ∃ w', (Builtin.append_ #[t, t] ty #[.slice (some ⟨g, 0, none⟩) k c, .slice A' (l.length - (k + 1)) (c - (k + 1))]).run P w = .ok (.slice (some ⟨g, 0, none⟩) (l.length - 1) c) w' ∧ SAt w' g c (l.take k ++ l.drop (k + 1)) ∧ Chg (GM9 g) w w' := by
  obtain ⟨cur, h1, h2, h3, h4, h5⟩ := h
  have hlen' : (l.take k ++ l.drop (k + 1)).length = l.length - 1 := by rw [List.length_append, List.length_take, List.length_drop]; omega
  by_cases hm : l.length - (k + 1) = 0
  · have hk : l.length - 1 = k := by omega
    refine ⟨w, ?_, ⟨cur, h1, by omega, h3, h4, fun j s hj => ?_⟩, Chg.refl _⟩
    · rw [hm, hk]
      cases A' <;> simp [Builtin.append_, run_underlying ht, sizeOf, typeInfo, hi, Builtin.lenOf, Builtin.firstCells, storeCells, loadCells, loadCellsFrom, show k ≤ c by omega]
    · rw [List.drop_eq_nil_of_le (by omega), List.append_nil, List.getElem?_take] at hj
      split at hj
      · exact h5 j s hj
      · cases hj
  · rw [if_neg (by omega)] at hA
    have hadd : (⟨g, 0, none⟩ : Addr).add ((k + 1) * 1) = ⟨g, k + 1, none⟩ := by unfold Addr.add; split <;> simp_all
    simp only [Option.map_some, hadd] at hA
    subst hA
    have hlen : (scells (l.drop (k + 1))).length = l.length - (k + 1) := by rw [scells_len, List.length_drop]
    have hr := run_append_room_cells (P := P) w t ty 9 i ht hi g 0 k c ⟨g, k + 1, none⟩ (l.length - (k + 1)) (c - (k + 1)) (scells (l.drop (k + 1))) (by rw [hs, hlen]; omega) (fun j u hu => by
      have hadd : (⟨g, k + 1, none⟩ : Addr).add j = ⟨g, k + 1 + j, none⟩ := by unfold Addr.add; split <;> simp_all
      rw [hadd, blk_cell h1]
      simp only [scells, List.getElem?_map, List.getElem?_drop] at hu
      obtain ⟨s, hs, rfl⟩ := Option.map_eq_some_iff.1 hu
      exact h5 _ s hs) (scells_one _) (by omega) (fun j hj => by
        rw [blk_cell h1, hs, Array.getElem?_eq_getElem (by rw [hlen] at hj; omega)]; rfl) (fun j hj => blk_free h1 _)
    rw [hs] at hr
    simp only [Nat.mul_one, Nat.zero_add] at hr
    obtain ⟨cur', b1, b2, b3, b4, b5⟩ := setCells_blk g 9 (0, 0) (scells (l.drop (k + 1))) k w cur h1 (by rw [hlen]; omega)
    refine ⟨_, by rw [show l.length - 1 = k + (l.length - (k + 1)) by omega]; exact hr, ⟨cur', b1, by omega, h3, by omega, fun j s hj => ?_⟩, b5.mono (fun i o hi e => ⟨e, by subst e; rw [h1] at hi; cases hi; exact ⟨_, _, rfl⟩⟩)⟩
    rw [List.getElem?_append, List.length_take, Nat.min_eq_left (by omega)] at hj
    split at hj
    · rename_i hjk
      rw [List.getElem?_take, if_pos hjk] at hj
      rw [b3 j hjk]
      exact h5 j s hj
    · have := b4 (j - k) _ (scells_get _ _ _ hj)
      rwa [show k + (j - k) = j by omega] at this
theorem wpList_clear_one {ops : Array Oper} {rest : List Oper} {o : Oper} {a : Act} {w : World} {Q : Exit → Act → World → Prop} (hgd : o.guard = none) (x : Operand)
    (ho : o.op = .call { callee := .builtin .clear, args := #[x], argTypes := #[22] }) (g c c0 : Nat) (l : List ByteArray) (hx : a.eval x = .slice (some ⟨g, l.length, none⟩) 1 c0) (h : SAt w g c l) (hc : l.length < c)
    (hK : ∀ w', SAt w' g c l → Chg (GM9 g) w w' → wpList Try.prog ops Q rest (a.put o.dst (.tuple #[])) w') : wpList Try.prog ops Q (o :: rest) a w := by
  obtain ⟨cur, h1, h2, h3, h4, h5⟩ := h
  have hz : (zeroValue 9).run Try.prog w = .ok (.string .empty) w := by kernel_rfl
  have hzc : (Builtin.zeroCells (Value.cells (.string .empty)) 1).toList = [.string .empty] := by kernel_rfl
  have hst := run_storeCells_cells (P := Try.prog) g l.length [Value.string .empty] 0 w (fun j hj => by
      rw [blk_cell h1, Array.getElem?_eq_getElem (by simp at hj; omega)]; rfl) (fun j hj => blk_free h1 _) (fun u hu => by simp at hu; subst hu; rfl)
  obtain ⟨cur', b1, b2, b3, b4, b5⟩ := setCells_blk g 9 (0, 0) [Value.string .empty] l.length w cur h1 (by simp; omega)
  simp only [Nat.add_zero] at hst
  refine wpList_plain hgd fun K' hK' => ?_
  have hrun : (Builtin.clear_ #[22] o.type #[.slice (some ⟨g, l.length, none⟩) 1 c0]).run Try.prog w = .ok (.tuple #[]) (w.setCells g l.length [Value.string .empty]) := by
    simp [Builtin.clear_, run_underlying Try.underlying22, hz, hzc, hst, Result.andThen]
  unfold Oper.wp
  simp only [execOp, ho, resolve, invoke, builtin, Sem.run_bind, Sem.run_pure, Result.andThen_ok, List.map_toArray, List.map_cons, List.map_nil, hx, hrun]
  refine hK' _ _ (hK _ ⟨cur', b1, h2, h3, by omega, fun j s hj => ?_⟩ (b5.mono (fun k o hk e => ⟨e, by subst e; rw [h1] at hk; cases hk; exact ⟨_, _, rfl⟩⟩)))
  rw [b3 j (List.getElem?_eq_some_iff.1 hj).1]
  exact h5 j s hj
theorem wpList_append_run {P : Program} {ops : Array Oper} {rest : List Oper} {o : Oper} {a : Act} {w w' : World} {Q : Exit → Act → World → Prop} (hgd : o.guard = none) (s x : Operand) (t : TypeId)
    (ho : o.op = .call { callee := .builtin .append, args := #[s, x], argTypes := #[t, t] }) {v : Value} (hrun : (Builtin.append_ #[t, t] o.type #[a.eval s, a.eval x]).run P w = .ok v w') (hK : wpList P ops Q rest (a.put o.dst v) w') : wpList P ops Q (o :: rest) a w := by
  refine wpList_plain hgd fun K' hK' => ?_
  unfold Oper.wp
  simp only [execOp, ho, resolve, invoke, builtin, Sem.run_bind, Sem.run_pure, Result.andThen_ok, List.map_toArray, List.map_cons, List.map_nil, hrun]
  exact hK' _ _ hK
set_option maxHeartbeats 1000000 in
/-- slices.Delete(s, k, k+1). -/
theorem delete_at (g c n k : Nat) (l : List ByteArray) (w : World) (h : SAt w g c l) (hn : l.length = n + 1) (hk : k ≤ n) (hm : n ≤ 1000) :
    Calls Try.prog 27 #[.slice (some ⟨g, 0, none⟩) (n + 1) c, .int .i64 k, .int .i64 ((k : Int) + 1)] w fun en w' => en = .returned (.slice (some ⟨g, 0, none⟩) n c) ∧ SAt w' g c (l.take k ++ l.drop (k + 1)) ∧ Chg (GM9 g) w w' := by
  obtain ⟨i0, hi, hz0, hz1, hz2⟩ := info_parts Try.info9
  have hlc : n + 1 ≤ c := by rw [← hn]; exact h.choose_spec.2.1
  have hcm : c ≤ maxLen := h.choose_spec.2.2.1
  simp only [maxLen] at hcm
  have HH := Lib.hid h
  have HI := Lib.hid hi
  have HZ := Lib.hid hz1
  have H0 := Lib.hid hn
  have hcut2 : ∀ W : World, (Instr.slice 22 (.slice (some ⟨g, 0, none⟩) (n + 1) c) none (some (.int .i64 (k : Int))) none).run Try.prog W = .ok (.slice (some ⟨g, 0, none⟩) k c) W := cut_h (P := Try.prog) 22 9 1 Try.underlying22 (by kernel_rfl) (some ⟨g, 0, none⟩) (n + 1) c k (by omega)
  obtain ⟨A', hcut3, hA'⟩ := cut_l (P := Try.prog) 22 9 1 Try.underlying22 (by kernel_rfl) (some ⟨g, 0, none⟩) (n + 1) c (k + 1) (by omega)
  have hcut3' : ∀ W : World, (Instr.slice 22 (.slice (some ⟨g, 0, none⟩) (n + 1) c) (some (.int .i64 ((k : Int) + 1))) none none).run Try.prog W = .ok (.slice A' (n - k) (c - (k + 1))) W := fun W => by
    have := hcut3 W
    rw [show n + 1 - (k + 1) = n - k by omega] at this
    exact this
  have hcut4 : ∀ W : World, (Instr.slice 22 (.slice (some ⟨g, 0, none⟩) n c) (some (.int .i64 (n : Int))) (some (.int .i64 ((n : Int) + 1))) none).run Try.prog W = .ok (.slice (some ⟨g, n, none⟩) 1 (c - n)) W := fun W => by
    rw [run_slice_lh (P := Try.prog) (w := W) 22 (some ⟨g, 0, none⟩) n c (by kernel_rfl) .i64 .i64 (n : Int) ((n : Int) + 1) (by omega) (by omega) (by omega)]
    rw [show Try.prog.elem 22 = 9 by kernel_rfl]
    have hne : c ≠ n := by omega
    have hadd : (⟨g, 0, none⟩ : Addr).add n = ⟨g, n, none⟩ := by unfold Addr.add; split <;> simp_all
    simp [sizeOf, typeInfo, hi, hz1, Result.andThen, sliced, hne, hadd]
  have HA := Lib.hid hA'
  obtain ⟨v1, hv1⟩ : ∃ v1, ∀ (W : World), (Instr.slice 22 (.slice (some ⟨g, 0, none⟩) (n + 1) c) (some (.int .i64 (k : Int))) (some (.int .i64 ((k : Int) + 1))) (some (.int .i64 ((n : Int) + 1)))).run Try.prog W = .ok v1 W := by
    have hne : n + 1 ≠ k := by omega
    have hadd : (⟨g, 0, none⟩ : Addr).add k = ⟨g, k, none⟩ := by unfold Addr.add; split <;> simp_all
    refine ⟨.slice (some ⟨g, k, none⟩) 1 (n + 1 - k), fun W => ?_⟩
    rw [run_slice_lhm (P := Try.prog) (w := W) 22 (some ⟨g, 0, none⟩) (n + 1) c (by kernel_rfl) .i64 .i64 .i64 (k : Int) ((k : Int) + 1) ((n : Int) + 1) (by omega) (by omega) (by omega) (by omega)]
    rw [show Try.prog.elem 22 = 9 by kernel_rfl]
    simp [sizeOf, typeInfo, hi, hz1, Result.andThen, sliced, hne, hadd]
  have j0 : (0 : Int) ≤ (k : Int) := by omega
  have j1 : (k : Int) ≤ (n : Int) := by omega
  have i2 : ¬ (k : Int) = (k : Int) + 1 := by omega
  clear h hi hz0 hz1 hz2 hA' hcut3 hn
  go_enter Try.func27, Try.ntmps27
  go_wp2_with fail
  refine wp_region_sig 6 (fun w' => Chg NoM w w') [.P [0, 1, 3, 4], .L [2, 5], .N [6, 7]] rfl (fun _ _ d _ _ h => by cases d <;> exact h) (fun _ h => h) (by kernel_rfl) ((Chg.refl _).drew) ?_
  apply sigP (Nat.le_refl _)
  · intro w'
    (simp only [wpPl, pickOps, List.filterMap_cons, List.filterMap_nil, List.getElem?_toArray, List.getElem?_cons_zero, List.getElem?_cons_succ]; iterate 4 (go_wp2; refine ⟨trivial, ?_⟩)); rfl
  apply sigL (by simp)
  · intro w' hS
    (simp only [wpPl, pickOps, List.filterMap_cons, List.filterMap_nil, List.getElem?_toArray, List.getElem?_cons_zero, List.getElem?_cons_succ]; iterate 2 (go_wp2; refine ⟨trivial, ?_⟩)); rfl
  apply sigN
  simp only [pickOps, List.filterMap_cons, List.filterMap_nil, List.getElem?_toArray, List.getElem?_cons_zero, List.getElem?_cons_succ]
  obtain ⟨w2, hrun, he2, hc2⟩ := run_shift (P := Try.prog) w.drew 22 22 i0 Try.underlying22 HI.out HZ.out g c l (HH.out) k (by rw [H0.out]; omega) A' HA.out
  rw [H0.out, show n + 1 - (k + 1) = n - k by omega, Nat.add_sub_cancel] at hrun
  have HE2 := Lib.hid he2
  have C2 : Hid (Chg (GM9 g) w w2) := (Chg.refl (M := GM9 g) w).drew.trans hc2
  have HR := Lib.hid hrun
  clear hrun hc2 he2
  refine wpList_append_run rfl (.tmp 22) (.tmp 25) 22 rfl HR.out ?_
  go_wp2_with fail
  apply sigEnd
  have hl1 : (l.take k ++ l.drop (k + 1)).length = n := by rw [List.length_append, List.length_take, List.length_drop, H0.out]; omega
  have HL1 := Lib.hid hl1
  clear hl1
  go_wp2_with (refine wpList_clear_one rfl (.tmp 31) rfl g c (c - n) (l.take k ++ l.drop (k + 1)) (by rw [HL1.out]; rfl) HE2.out (by rw [HL1.out]; omega) ?_)
  intro w3 he3 hc3
  have HE3 := Lib.hid he3
  have C3 : Hid (Chg (GM9 g) w w3) := C2.out.trans hc3
  clear he3 hc3
  go_wp2_with fail
  go_ret
  exact ⟨rfl, HE3.out, C3.out⟩
end Go.Proofs.Ytpfkgigfkonocaa
