/- A map in memory as a function from keys to values: look-up, store, delete. -/
import Derived.Test.YtpfkgigfkonocaaBase
import Derived.Maps.Keyed
import Derived.Maps.Own
namespace Go.Proofs.Ytpfkgigfkonocaa
set_option linter.unusedVariables false
set_option linter.unusedSimpArgs false
open Go.RowKit Go.ChangeMaps

/-- Block b is a map; f says what it holds. -/
def MapAt (P : Program) (k : TypeId) (w : World) (b : Nat) (f : Value → Option Value) : Prop :=
  ∃ es clock, w.heap[b]? = some (.map es clock) ∧ (∀ e ∈ es.toList, ∃ l, keyOf P k e.key = some l) ∧ (es.toList.map fun e => e.key).Nodup ∧ ∀ x u, f x = some u ↔ ∃ e ∈ es.toList, e.key = x ∧ e.val = u

open Classical in
noncomputable def fput (f : Value → Option Value) (x : Value) (v : Option Value) : Value → Option Value := fun y => if y = x then v else f y
theorem fput_same (f : Value → Option Value) (x : Value) (v : Option Value) : fput f x v x = v := by simp [fput]
theorem fput_ne (f : Value → Option Value) (x y : Value) (v : Option Value) (h : y ≠ x) : fput f x v y = f y := by simp [fput, h]

theorem nodup_at {l : List MapEntry} (h : (l.map fun e => e.key).Nodup) {i j : Nat} {a b : MapEntry} (hi : l[i]? = some a) (hj : l[j]? = some b) (hk : a.key = b.key) : i = j := by
  obtain ⟨hi', rfl⟩ := List.getElem?_eq_some_iff.1 hi
  obtain ⟨hj', rfl⟩ := List.getElem?_eq_some_iff.1 hj
  have h' := List.pairwise_iff_getElem.1 h
  rcases Nat.lt_trichotomy i j with c | c | c
  · exact absurd (by rw [List.getElem_map, List.getElem_map]; exact hk) (h' i j (by simpa using hi') (by simpa using hj') c)
  · exact c
  · exact absurd (by rw [List.getElem_map, List.getElem_map]; exact hk.symm) (h' j i (by simpa using hj') (by simpa using hi') c)
theorem nodup_mem {l : List MapEntry} (h : (l.map fun e => e.key).Nodup) {a b : MapEntry} (hi : a ∈ l) (hj : b ∈ l) (hk : a.key = b.key) : a = b := by
  obtain ⟨i, hi⟩ := List.mem_iff_getElem?.1 hi
  obtain ⟨j, hj⟩ := List.mem_iff_getElem?.1 hj
  have := nodup_at h hi hj hk
  subst this
  rw [hi] at hj
  exact Option.some.inj hj

variable {P : Program} {k e t : TypeId} {w : World} {b : Nat} {f : Value → Option Value}

theorem MapAt.new (P : Program) (k : TypeId) (w : World) : MapAt P k (w.alloc (.map #[] 0)) w.heap.size (fun _ => none) :=
  ⟨#[], 0, (MapKept.heap_alloc w _).1, by simp, by simp, by simp⟩
theorem MapAt.lt (h : MapAt P k w b f) : b < w.heap.size := by
  obtain ⟨es, c, hb, _⟩ := h
  exact lt_of_blk hb
theorem MapAt.chg {M : Nat → Obj → Prop} {w' : World} (h : MapAt P k w b f) (hc : Chg M w w') (hm : ∀ es c, ¬ M b (.map es c)) : MapAt P k w' b f := by
  obtain ⟨es, c, hb, r⟩ := h
  exact ⟨es, c, hc.block _ _ hb (hm _ _), r⟩
theorem MapAt.chgNo {w' : World} (h : MapAt P k w b f) (hc : Chg NoM w w') : MapAt P k w' b f := h.chg hc (fun _ _ h => h)
theorem MapAt.ne {c : Array Value} {y : TypeId} {fr : Nat × Nat} {g : Nat} (h : MapAt P k w b f) (hg : w.heap[g]? = some (.cells c y fr)) : g ≠ b := by
  rintro rfl
  obtain ⟨es, c, hb, _⟩ := h
  rw [hb] at hg
  cases hg

/-- What a look-up of a map gives. -/
theorem MapAt.look (h : MapAt P k w b f) (K : Maps.Keyed P k) (ht : P.underlying t = some (.map k e)) {z : Value} (hz : ∀ w, (zeroValue e).run P w = .ok z w) {key : Value} {kl : Lit} (hkey : keyOf P k key = some kl) (c : Bool) :
    (Instr.lookup t (.map (some b)) key c).run P w = .ok (if c then .tuple #[(f key).getD z, .bool (f key).isSome] else (f key).getD z) w := by
  obtain ⟨es, clock, hb, hks, hnd, hf⟩ := h
  rcases K.find w hkey es.toList hks with ⟨h1, h2⟩ | ⟨j, e0, h1, h2, h3⟩
  · have hn : f key = none := by
      cases hc : f key with
      | none => rfl
      | some u =>
        obtain ⟨e, he, hk, _⟩ := (hf key u).1 hc
        exact absurd hk (h2 e he)
    rw [hn]
    simp [Instr.lookup, run_underlying ht, MapKept.run_getObj_map hb, K.check w _ hkey, h1, hz, Result.andThen]
  · have hs : f key = some e0.val := (hf key _).2 ⟨e0, List.mem_of_getElem? h2, h3, rfl⟩
    rw [hs]
    simp [Instr.lookup, run_underlying ht, MapKept.run_getObj_map hb, K.check w _ hkey, h1, Result.andThen]

def mapM (b : Nat) : Nat → Obj → Prop := fun g o => g = b ∧ ∃ es c, o = .map es c
theorem chg_setBlock {es es' : Array MapEntry} {c c' : Nat} (hb : w.heap[b]? = some (.map es c)) : Chg (mapM b) w (setBlock w b (.map es' c')) :=
  ⟨rfl, rfl, rfl, by simp [setBlock], fun g o hg hm => by
    by_cases e : g = b
    · subst e
      rw [hb] at hg
      cases hg
      exact absurd ⟨rfl, _, _, rfl⟩ hm
    · rw [heap_setBlock_other hb _ e]; exact hg⟩

/-- What a store into a map leaves. -/
theorem MapAt.put (h : MapAt P k w b f) (K : Maps.Keyed P k) (ht : P.underlying t = some (.map k e)) {key val : Value} {kl : Lit} (hkey : keyOf P k key = some kl) :
    ∃ w', (Instr.mapUpdate t (.map (some b)) key val).run P w = .ok () w' ∧ MapAt P k w' b (fput f key (some val)) ∧ Chg (mapM b) w w' ∧ w'.heap.size = w.heap.size := by
  obtain ⟨es, clock, hb, hks, hnd, hf⟩ := h
  rcases K.find w hkey es.toList hks with ⟨h1, h2⟩ | ⟨j, e0, h1, h2, h3⟩
  · refine ⟨setBlock w b (.map (es.push ⟨key, val, clock⟩) (clock + 1)), ?_, ⟨es.push ⟨key, val, clock⟩, clock + 1, heap_setBlock_same hb _, ?_, ?_, ?_⟩, chg_setBlock hb, by simp [setBlock]⟩
    · simp [Instr.mapUpdate, run_underlying ht, MapKept.run_getObj_map hb, K.check w false hkey, h1, MapKept.run_setObj_map _ hb, Result.andThen, setBlock]
    · intro x hx
      simp only [Array.toList_push, List.mem_append, List.mem_singleton] at hx
      rcases hx with hx | rfl
      · exact hks x hx
      · exact ⟨_, hkey⟩
    · rw [Array.toList_push, List.map_append, List.nodup_append]
      refine ⟨hnd, by simp, ?_⟩
      intro a ha c hc
      obtain ⟨x, hx, rfl⟩ := List.mem_map.1 ha
      simp at hc
      subst hc
      exact h2 x hx
    · intro x u
      simp only [Array.toList_push, List.mem_append, List.mem_singleton]
      by_cases hx : x = key
      · subst hx
        rw [fput_same]
        constructor
        · intro h
          exact ⟨_, .inr rfl, rfl, Option.some.inj h⟩
        · rintro ⟨y, hy | rfl, hk, hv⟩
          · exact absurd hk (h2 y hy)
          · exact congrArg some hv
      · rw [fput_ne _ _ _ _ hx, hf]
        constructor
        · rintro ⟨y, hy, r⟩
          exact ⟨y, .inl hy, r⟩
        · rintro ⟨y, hy | rfl, hk, hv⟩
          · exact ⟨y, hy, hk, hv⟩
          · exact absurd hk.symm hx
  · have hj : es[j]? = some e0 := by simpa using h2
    have hjl : j < es.toList.length := (List.getElem?_eq_some_iff.1 h2).1
    have hlist : (es.modify j (fun e' => { e' with key := key, val := val })).toList = es.toList.set j { e0 with key := key, val := val } := by rw [Array.toList_modify, modify_eq_set _ _ _ _ h2]
    have hget : es.toList[j] = e0 := (List.getElem?_eq_some_iff.1 h2).2
    have hmap : (es.toList.set j { e0 with key := key, val := val }).map (fun e => e.key) = es.toList.map (fun e => e.key) := by
      rw [List.map_set]
      apply List.ext_getElem?
      intro i
      rw [List.getElem?_set]
      split
      · rename_i e
        subst e
        rw [if_pos (by simpa using hjl), List.getElem?_map, h2]
        simp [h3]
      · rfl
    refine ⟨setBlock w b (.map (es.modify j (fun e' => { e' with key := key, val := val })) clock), ?_, ⟨es.modify j (fun e' => { e' with key := key, val := val }), clock, heap_setBlock_same hb _, ?_, ?_, ?_⟩, chg_setBlock hb, by simp [setBlock]⟩
    · simp [Instr.mapUpdate, run_underlying ht, MapKept.run_getObj_map hb, K.check w false hkey, h1, hj, h3, K.stays w hkey, MapKept.run_setObj_map _ hb, Result.andThen, setBlock]
    · intro x hx
      rw [hlist] at hx
      rcases List.mem_or_eq_of_mem_set hx with hx | rfl
      · exact hks x hx
      · exact ⟨_, hkey⟩
    · rw [hlist, hmap]; exact hnd
    · intro x u
      rw [hlist]
      have hnd' : ((es.toList.set j { e0 with key := key, val := val }).map fun e => e.key).Nodup := by rw [hmap]; exact hnd
      have hnew : ({ e0 with key := key, val := val } : MapEntry) ∈ es.toList.set j { e0 with key := key, val := val } := List.mem_set hjl _
      by_cases hx : x = key
      · subst hx
        rw [fput_same]
        constructor
        · intro h
          exact ⟨_, hnew, rfl, Option.some.inj h⟩
        · rintro ⟨y, hy, hk, hv⟩
          have := nodup_mem hnd' hy hnew hk
          subst this
          exact congrArg some hv
      · rw [fput_ne _ _ _ _ hx, hf]
        constructor
        · rintro ⟨y, hy, hk, hv⟩
          obtain ⟨i, hi⟩ := List.mem_iff_getElem?.1 hy
          refine ⟨y, List.mem_iff_getElem?.2 ⟨i, ?_⟩, hk, hv⟩
          rw [List.getElem?_set, if_neg ?_]
          · exact hi
          · rintro rfl
            rw [h2] at hi
            cases hi
            exact hx (hk.symm.trans h3)
        · rintro ⟨y, hy, hk, hv⟩
          rcases List.mem_or_eq_of_mem_set hy with hy | rfl
          · exact ⟨y, hy, hk, hv⟩
          · exact absurd hk.symm hx

/-- What a delete leaves. -/
theorem MapAt.del {ty : TypeId} (h : MapAt P k w b f) (K : Maps.Keyed P k) (ht : P.underlying t = some (.map k e)) {key : Value} {kl : Lit} (hkey : keyOf P k key = some kl) :
    ∃ w', (Builtin.delete_ #[t, k] ty #[.map (some b), key]).run P w = .ok (.tuple #[]) w' ∧ MapAt P k w' b (fput f key none) ∧ Chg (mapM b) w w' ∧ w'.heap.size = w.heap.size := by
  obtain ⟨es, clock, hb, hks, hnd, hf⟩ := h
  rcases K.find w hkey es.toList hks with ⟨h1, h2⟩ | ⟨j, e0, h1, h2, h3⟩
  · refine ⟨setBlock w b (.map es clock), ?_, ⟨es, clock, heap_setBlock_same hb _, hks, hnd, ?_⟩, chg_setBlock hb, by simp [setBlock]⟩
    · simp [Builtin.delete_, run_underlying ht, MapKept.run_getObj_map hb, K.check w _ hkey, h1, MapKept.run_setObj_map _ hb, Result.andThen, setBlock]
    · intro x u
      by_cases hx : x = key
      · subst hx
        rw [fput_same]
        constructor
        · intro h; cases h
        · rintro ⟨y, hy, hk, _⟩; exact absurd hk (h2 y hy)
      · rw [fput_ne _ _ _ _ hx, hf]
  · have hjl : j < es.toList.length := (List.getElem?_eq_some_iff.1 h2).1
    have hjs : j < es.size := by simpa using hjl
    have hsub : (es.eraseIdxIfInBounds j).toList = es.toList.eraseIdx j := by
      unfold Array.eraseIdxIfInBounds
      rw [dif_pos hjs]
      simp
    refine ⟨setBlock w b (.map (es.eraseIdxIfInBounds j) clock), ?_, ⟨es.eraseIdxIfInBounds j, clock, heap_setBlock_same hb _, ?_, ?_, ?_⟩, chg_setBlock hb, by simp [setBlock]⟩
    · simp [Builtin.delete_, run_underlying ht, MapKept.run_getObj_map hb, K.check w _ hkey, h1, MapKept.run_setObj_map _ hb, Result.andThen, setBlock]
    · intro x hx
      rw [hsub] at hx
      exact hks x ((List.eraseIdx_sublist _ _).subset hx)
    · rw [hsub]
      exact hnd.sublist ((List.eraseIdx_sublist _ _).map _)
    · intro x u
      rw [hsub]
      by_cases hx : x = key
      · subst hx
        rw [fput_same]
        constructor
        · intro h; cases h
        · rintro ⟨y, hy, hk, _⟩
          obtain ⟨i, hne, hi⟩ := List.mem_eraseIdx_iff_getElem?.1 hy
          exact absurd (nodup_at hnd hi h2 (hk.trans h3.symm)) hne
      · rw [fput_ne _ _ _ _ hx, hf]
        constructor
        · rintro ⟨y, hy, hk, hv⟩
          obtain ⟨i, hi⟩ := List.mem_iff_getElem?.1 hy
          refine ⟨y, List.mem_eraseIdx_iff_getElem?.2 ⟨i, ?_, hi⟩, hk, hv⟩
          rintro rfl
          rw [h2] at hi
          cases hi
          exact hx (hk.symm.trans h3)
        · rintro ⟨y, hy, r⟩
          exact ⟨y, (List.eraseIdx_sublist _ _).subset hy, r⟩

/-- The same at the operations. -/
theorem wpList_look_f {ops : Array Oper} {rest : List Oper} {o : Oper} {a : Act} {Q : Exit → Act → World → Prop} (hgd : o.guard = none) (m x : Operand) (t : TypeId) (c : Bool) (ho : o.op = .lookup t m x c)
    (h : MapAt P k w b f) (K : Maps.Keyed P k) (ht : P.underlying t = some (.map k e)) {z : Value} (hz : ∀ w, (zeroValue e).run P w = .ok z w) {key : Value} {kl : Lit} (hm : a.eval m = .map (some b)) (hx : a.eval x = key) (hkey : keyOf P k key = some kl)
    (hK : wpList P ops Q rest (a.put o.dst (if c then .tuple #[(f key).getD z, .bool (f key).isSome] else (f key).getD z)) w) : wpList P ops Q (o :: rest) a w := by
  refine wpList_plain hgd fun K' hK' => ?_
  have hrun := h.look K ht hz hkey c
  unfold Oper.wp
  simp only [execOp, ho, hm, hx, Sem.run_bind, Sem.run_pure, Result.andThen_ok, hrun]
  exact hK' _ _ hK
theorem wpList_put_f {ops : Array Oper} {rest : List Oper} {o : Oper} {a : Act} {Q : Exit → Act → World → Prop} (hgd : o.guard = none) (m x v : Operand) (t : TypeId) (ho : o.op = .mapUpdate t m x v)
    (h : MapAt P k w b f) (K : Maps.Keyed P k) (ht : P.underlying t = some (.map k e)) {key val : Value} {kl : Lit} (hm : a.eval m = .map (some b)) (hx : a.eval x = key) (hv : a.eval v = val) (hkey : keyOf P k key = some kl)
    (hK : ∀ w', MapAt P k w' b (fput f key (some val)) → Chg (mapM b) w w' → w'.heap.size = w.heap.size → wpList P ops Q rest (a.put o.dst undef) w') : wpList P ops Q (o :: rest) a w := by
  refine wpList_plain hgd fun K' hK' => ?_
  obtain ⟨w', hrun, r1, r2, r3⟩ := h.put (val := val) K ht hkey
  unfold Oper.wp
  simp [execOp, ho, hm, hx, hv, hrun, Result.andThen]
  exact hK' _ _ (hK w' r1 r2 r3)
theorem wpList_del_f {ops : Array Oper} {rest : List Oper} {o : Oper} {a : Act} {Q : Exit → Act → World → Prop} (hgd : o.guard = none) (m x : Operand) (t : TypeId) (ho : o.op = .call { callee := .builtin .delete, args := #[m, x], argTypes := #[t, k] })
    (h : MapAt P k w b f) (K : Maps.Keyed P k) (ht : P.underlying t = some (.map k e)) {key : Value} {kl : Lit} (hm : a.eval m = .map (some b)) (hx : a.eval x = key) (hkey : keyOf P k key = some kl)
    (hK : ∀ w', MapAt P k w' b (fput f key none) → Chg (mapM b) w w' → w'.heap.size = w.heap.size → wpList P ops Q rest (a.put o.dst (.tuple #[])) w') : wpList P ops Q (o :: rest) a w := by
  refine wpList_plain hgd fun K' hK' => ?_
  obtain ⟨w', hrun, r1, r2, r3⟩ := h.del (ty := o.type) K ht hkey
  unfold Oper.wp
  simp only [execOp, ho, resolve, invoke, builtin, Sem.run_bind, Sem.run_pure, Result.andThen_ok, List.map_toArray, List.map_cons, List.map_nil, hm, hx, hrun]
  exact hK' _ _ (hK w' r1 r2 r3)
end Go.Proofs.Ytpfkgigfkonocaa
