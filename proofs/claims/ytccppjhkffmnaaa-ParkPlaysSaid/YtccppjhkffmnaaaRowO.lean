/- A slice with an offset into its row, elements of one cell: append, cut, read. -/
import Derived.Test.YtccppjhkffmnaaaBase
import Derived.ArgAppend
namespace Go.Proofs.Ytccppjhkffmnaaa
set_option linter.unusedVariables false
set_option linter.unusedSimpArgs false
open Go.RowKit

/-- The block that an append to a slice may write. -/
def rowBlk : Value → Option Nat
  | .slice (some a) _ c => if c = 0 then none else some a.block
  | _ => none
def RowO (w : World) (e : TypeId) (v : Value) (xs : List Value) : Prop :=
  ∃ A c, v = .slice A xs.length c ∧ xs.length ≤ c ∧ c ≤ maxLen ∧ (A = none → c = 0) ∧
    (0 < c → ∃ g off cur, A = some ⟨g, off, none⟩ ∧ w.heap[g]? = some (.cells cur e (0, 0)) ∧ off + c ≤ cur.size ∧ ∀ j u, xs[j]? = some u → cur[off + j]? = some u)
def rowM (v : Value) (e : TypeId) : Nat → Obj → Prop := fun k o => rowBlk v = some k ∧ ∃ c f, o = .cells c e f
theorem rowM.ne {v : Value} {e t : TypeId} {k : Nat} {c : Array Value} {f : Nat × Nat} (h : t ≠ e) : ¬ rowM v e k (.cells c t f) := by
  rintro ⟨_, c', f', h'⟩
  injection h' with _ h'
  exact h h'
theorem RowO.nil (w : World) (e : TypeId) : RowO w e (.slice none 0 0) [] := ⟨none, 0, rfl, Nat.le_refl _, by simp [maxLen], fun _ => rfl, fun h => by omega⟩
theorem RowO.slice {w : World} {e : TypeId} {v : Value} {xs : List Value} (h : RowO w e v xs) : ∃ A c, v = .slice A xs.length c ∧ xs.length ≤ c ∧ c ≤ maxLen := by
  obtain ⟨A, c, r1, r2, r3, _⟩ := h
  exact ⟨A, c, r1, r2, r3⟩
theorem RowO.blk {w : World} {e : TypeId} {v : Value} {xs : List Value} (h : RowO w e v xs) {g : Nat} (hg : rowBlk v = some g) : ∃ cur, w.heap[g]? = some (.cells cur e (0, 0)) := by
  obtain ⟨A, c, rfl, h1, h2, h3, h4⟩ := h
  by_cases h0 : c = 0
  · subst h0
    cases A <;> simp [rowBlk] at hg
  · obtain ⟨g', off, cur, rfl, hb, _⟩ := h4 (by omega)
    simp [rowBlk, h0] at hg
    subst hg
    exact ⟨cur, hb⟩
theorem RowO.lt {w : World} {e : TypeId} {v : Value} {xs : List Value} (h : RowO w e v xs) {g : Nat} (hg : rowBlk v = some g) : g < w.heap.size := by
  obtain ⟨cur, hb⟩ := h.blk hg
  exact lt_of_blk hb
theorem RowO.chg {M : Nat → Obj → Prop} {w w' : World} {e : TypeId} {v : Value} {xs : List Value} (h : RowO w e v xs) (hc : Chg M w w') (hm : ∀ g c f, rowBlk v = some g → ¬ M g (.cells c e f)) : RowO w' e v xs := by
  obtain ⟨A, c, rfl, h1, h2, h3, h4⟩ := h
  refine ⟨A, c, rfl, h1, h2, h3, fun hp => ?_⟩
  obtain ⟨g, off, cur, rfl, hb, r⟩ := h4 hp
  exact ⟨g, off, cur, rfl, hc.block _ _ hb (hm g _ _ (by simp [rowBlk]; omega)), r⟩
theorem RowO.chgNo {w w' : World} {e : TypeId} {v : Value} {xs : List Value} (h : RowO w e v xs) (hc : Chg NoM w w') : RowO w' e v xs := h.chg hc (fun _ _ _ _ h => h)
/-- Where the elements lie. -/
theorem RowO.cells {w : World} {e : TypeId} {v : Value} {xs : List Value} (h : RowO w e v xs) (hp : 0 < xs.length) :
    ∃ g off c, v = .slice (some ⟨g, off, none⟩) xs.length c ∧ xs.length ≤ c ∧ c ≤ maxLen ∧ rowBlk v = some g ∧ (∃ cur, w.heap[g]? = some (.cells cur e (0, 0)) ∧ off + c ≤ cur.size) ∧ ∀ j u, xs[j]? = some u → w.cell? ⟨g, off + j, none⟩ = some u := by
  obtain ⟨A, c, rfl, h1, h2, h3, h4⟩ := h
  obtain ⟨g, off, cur, rfl, hb, hs, hc⟩ := h4 (by omega)
  refine ⟨g, off, c, rfl, h1, h2, by simp [rowBlk]; omega, ⟨cur, hb, hs⟩, fun j u hj => ?_⟩
  rw [blk_cell hb]
  exact hc j u hj
theorem RowO.news {w : World} {e : TypeId} {A : Option Addr} {n c : Nat} {xs : List Value} (h : RowO w e (.slice A n c) xs) : 0 < n → ∃ ad, A = some ad ∧ ∀ j u, xs[j]? = some u → w.cell? (ad.add j) = some u := by
  intro hp
  obtain ⟨A', c', he, h1, h2, h3, h4⟩ := h
  cases he
  obtain ⟨g, off, cur, rfl, hb, hs, hc⟩ := h4 (by omega)
  refine ⟨_, rfl, fun j u hj => ?_⟩
  have hadd : (⟨g, off, none⟩ : Addr).add j = ⟨g, off + j, none⟩ := by unfold Addr.add; split <;> simp_all
  rw [hadd, blk_cell hb]
  exact hc j u hj
theorem RowO.at {w : World} {e : TypeId} {A : Option Addr} {n c : Nat} {xs : List Value} (h : RowO w e (.slice A n c) xs) (hp : 0 < xs.length) :
    ∃ g off, A = some ⟨g, off, none⟩ ∧ rowBlk (.slice A n c) = some g ∧ ∀ j u, xs[j]? = some u → w.cell? ⟨g, off + j, none⟩ = some u := by
  obtain ⟨g, off, c', he, _, _, hr, _, hc⟩ := h.cells hp
  injection he with h1 h2 h3
  exact ⟨g, off, h1, hr, hc⟩
/-- 'v[m:]'. -/
theorem RowO.cut {w : World} {e : TypeId} {A A' : Option Addr} {n c : Nat} {xs : List Value} (h : RowO w e (.slice A n c) xs) (m : Nat) (hm : m ≤ n) (hA : A' = (if c = m then A else A.map (·.add (m * 1)))) :
    RowO w e (.slice A' (n - m) (c - m)) (xs.drop m) ∧ ∀ g, rowBlk (.slice A' (n - m) (c - m)) = some g → rowBlk (.slice A n c) = some g := by
  obtain ⟨A0, c0, he, h1, h2, h3, h4⟩ := h
  cases he
  by_cases hcm : c = m
  · rw [if_pos hcm] at hA
    subst hA
    subst hcm
    refine ⟨⟨A', 0, by simp, by simp; omega, by simp [maxLen], fun _ => rfl, fun h => by omega⟩, fun g hg => ?_⟩
    cases A' <;> simp [rowBlk] at hg
  · rw [if_neg hcm] at hA
    obtain ⟨g, off, cur, rfl, hb, hs, hc⟩ := h4 (by omega)
    have hadd : (⟨g, off, none⟩ : Addr).add (m * 1) = ⟨g, off + m, none⟩ := by unfold Addr.add; split <;> simp_all
    simp only [Option.map_some, hadd] at hA
    subst hA
    refine ⟨⟨_, c - m, by simp, by simp; omega, by omega, (fun h => by cases h), fun _ => ⟨g, off + m, cur, rfl, hb, by omega, fun j u hj => ?_⟩⟩, fun g' hg => ?_⟩
    · rw [List.getElem?_drop] at hj
      rw [Nat.add_assoc]
      exact hc _ _ hj
    · simp [rowBlk] at hg ⊢
      exact ⟨by omega, hg.2⟩
theorem RowO.own {w : World} {base : Nat} {e : TypeId} {v : Value} {xs : List Value} (h : w.ownsRow base e 1 v xs.length xs) : RowO w e v xs ∧ ∀ g, rowBlk v = some g → base ≤ g := by
  rcases h.2 with ⟨rfl, h0⟩ | ⟨g, cap, cur, rfl, hb, hh, h1, h2, h3, h4⟩
  · obtain rfl := List.eq_nil_of_length_eq_zero h0
    exact ⟨RowO.nil _ _, fun g hg => by simp [rowBlk] at hg⟩
  · refine ⟨⟨_, cap, rfl, h1, h2, (fun h => by cases h), fun _ => ⟨g, 0, cur, rfl, hh, by omega, fun j u hj => ?_⟩⟩, fun g' hg => ?_⟩
    · rw [Nat.zero_add]
      rw [← h4, List.getElem?_take] at hj
      split at hj
      · simpa using hj
      · cases hj
    · simp [rowBlk] at hg
      omega

theorem setCells_blk (b : Nat) (e : TypeId) (fr : Nat × Nat) : ∀ (vs : List Value) (o : Nat) (w : World) (cur : Array Value), w.heap[b]? = some (.cells cur e fr) → o + vs.length ≤ cur.size →
    ∃ cur', (w.setCells b o vs).heap[b]? = some (.cells cur' e fr) ∧ cur'.size = cur.size ∧ (∀ j, j < o → cur'[j]? = cur[j]?) ∧ (∀ j u, vs[j]? = some u → cur'[o + j]? = some u) ∧ Chg (fun k _ => k = b) w (w.setCells b o vs)
  | [], o, w, cur, hb, _ => ⟨cur, hb, rfl, fun _ _ => rfl, fun _ _ h => by simp at h, Chg.refl _⟩
  | v :: r, o, w, cur, hb, hs => by
    simp only [List.length_cons] at hs
    obtain ⟨cur', h1, h2, h3, h4, h5⟩ := setCells_blk b e fr r (o + 1) (w.setCell ⟨b, o, none⟩ v) _ (blk_set hb o v) (by simp; omega)
    refine ⟨cur', h1, by simpa using h2, fun j hj => ?_, fun j u hj => ?_, ((Chg.store w ⟨b, o, none⟩ v)).trans h5⟩
    · rw [h3 j (by omega), Array.getElem?_setIfInBounds, if_neg (by omega)]
    · cases j with
      | zero =>
        simp at hj
        subst hj
        rw [Nat.add_zero, h3 o (by omega), Array.getElem?_setIfInBounds, if_pos rfl, if_pos (by omega)]
      | succ j =>
        rw [show o + (j + 1) = o + 1 + j by omega]
        exact h4 j u (by simpa using hj)

/-- What an append leaves. -/
structure AppO (w w' : World) (e : TypeId) (v v' : Value) (xs news : List Value) : Prop where
  row : RowO w' e v' (xs ++ news)
  chg : Chg (rowM v e) w w'
  own : ∀ g, rowBlk v' = some g → rowBlk v = some g ∨ w.heap.size ≤ g
theorem run_append_O {P : Program} (w : World) (t ty e : TypeId) (i : TypeInfo) (z : Value) (bytes : Nat) (ht : P.underlying t = some (.slice e)) (hi : P.info? e = some i) (hz : i.zero = some z)
    (hsize : i.size = 1) (hby : i.bytes = bytes) (hzs : z.cells.size = 1) (v : Value) (xs : List Value) (hown : RowO w e v xs)
    (A : Option Addr) (m c : Nat) (news : List Value) (hl : news.length = m) (hA : 0 < m → ∃ ad, A = some ad ∧ ∀ j u, news[j]? = some u → w.cell? (ad.add j) = some u) (h1 : ∀ u ∈ news, u.oneCell' = true)
    (hbytes : (xs.length + m) * bytes ≤ 140737488355328) (h63 : xs.length + m ≤ 140737488355328) :
    ∃ v' w', (Builtin.append_ #[t, t] ty #[v, .slice A m c]).run P w = .ok v' w' ∧ AppO w w' e v v' xs news := by
  have hm63 : xs.length + m ≤ maxLen := by simp only [maxLen]; omega
  obtain ⟨Av, cv, rfl, k1, k2, k3, k4⟩ := hown
  have hown : RowO w e (.slice Av xs.length cv) xs := ⟨Av, cv, rfl, k1, k2, k3, k4⟩
  by_cases hm : m = 0
  · subst hm
    obtain rfl : news = [] := List.eq_nil_of_length_eq_zero hl
    refine ⟨.slice Av xs.length cv, w, ?_, ⟨by simpa using hown, Chg.refl _, fun g hg => .inl hg⟩⟩
    cases Av with
    | none =>
      have := k3 rfl
      subst this
      have h0 : xs.length = 0 := by omega
      cases A <;> simp [Builtin.append_, run_underlying ht, sizeOf, typeInfo, hi, Builtin.lenOf, Builtin.firstCells, loadCells, loadCellsFrom, h0]
    | some a => cases A <;> simp [Builtin.append_, run_underlying ht, sizeOf, typeInfo, hi, Builtin.lenOf, Builtin.firstCells, k1, storeCells, loadCells, loadCellsFrom]
  · obtain ⟨ad, rfl, hnews⟩ := hA (by omega)
    by_cases hroom : xs.length + m ≤ cv
    · obtain ⟨g, off, cur, rfl, hb, hs, hc⟩ := k4 (by omega)
      have hr := run_append_room_cells (P := P) w t ty e i ht hi g off xs.length cv ad m c news (by rw [hsize, hl]; omega) hnews h1 hroom (fun j hj => by
          rw [blk_cell hb, hsize, Array.getElem?_eq_getElem (by omega)]; rfl) (fun j hj => blk_free hb _)
      rw [hsize] at hr
      simp only [Nat.mul_one] at hr
      obtain ⟨cur', b1, b2, b3, b4, b5⟩ := setCells_blk g e (0, 0) news (off + xs.length) w cur hb (by omega)
      refine ⟨_, _, hr, ⟨⟨_, cv, by rw [List.length_append, hl], by rw [List.length_append, hl]; exact hroom, k2, k3, fun _ => ⟨g, off, cur', rfl, b1, by omega, fun j u hj => ?_⟩⟩, b5.mono (fun k o hk e => ?_), fun g' hg => .inl ?_⟩⟩
      · rw [List.getElem?_append] at hj
        split at hj
        · rw [b3 _ (by omega)]; exact hc _ _ hj
        · rename_i hnl
          have := b4 _ _ hj
          rwa [show off + xs.length + (j - xs.length) = off + j by omega] at this
      · subst e
        rw [hb] at hk
        cases hk
        exact ⟨by simp [rowBlk]; omega, _, _, rfl⟩
      · simpa [rowBlk] using hg
    · have fin : ∀ v' w', w'.ownsRow w.heap.size e 1 v' (xs.length + m) (xs ++ news) → w.grownBy w' none → AppO w w' e (.slice Av xs.length cv) v' xs news := by
        intro v' w' ho hg
        obtain ⟨r1, r2⟩ := RowO.own (xs := xs ++ news) (by rw [List.length_append, hl]; exact ho)
        refine ⟨r1, ⟨hg.os, hg.tape, hg.output, hg.size, fun k o hk _ => by rw [hg.block k (lt_of_blk hk) (by simp)]; exact hk⟩, fun g hg' => .inr (r2 g hg')⟩
      cases Av with
      | none =>
        have := k3 rfl
        subst this
        obtain rfl : xs = [] := List.eq_nil_of_length_eq_zero (by omega)
        obtain ⟨v', w', hrun, r1, r2, _⟩ := run_append_own (P := P) w w.heap.size t ty e i z 1 bytes ht hi hz hsize hby hzs (by omega) (.slice none 0 0) 0 [] (World.ownsRow_nil w _ e 1) ad m c news (by omega) hnews h1 (by omega) hbytes (Nat.le_refl _)
        exact ⟨v', w', hrun, fin _ _ r1 r2⟩
      | some a =>
        obtain ⟨v', w', hrun, r1, r2⟩ := run_append_arg_grows (P := P) w t ty e i z 1 bytes ht hi hz hsize hby hzs (by omega) a xs.length cv xs (by omega) (fun j u hj => by
          obtain ⟨ad', e', hc'⟩ := hown.news (Nat.lt_of_le_of_lt (Nat.zero_le _) (List.getElem?_eq_some_iff.1 hj).1)
          cases e'
          exact hc' j u hj) ad m c news (by omega) hnews (by omega) hm63 hbytes
        exact ⟨v', w', hrun, fin _ _ r1 r2⟩
theorem wpList_append_O {P : Program} {ops : Array Oper} {rest : List Oper} {o : Oper} {a : Act} {Q : Exit → Act → World → Prop} (w : World) (hgd : o.guard = none) (s x : Operand) (t : TypeId)
    (ho : o.op = .call { callee := .builtin .append, args := #[s, x], argTypes := #[t, t] }) (e : TypeId) (z : Value) (bytes : Nat)
    (ht : P.underlying t = some (.slice e)) (hinfo : (P.info? e).map (fun i => (i.zero, i.size, i.bytes)) = some (some z, 1, bytes)) (hzs : z.cells.size = 1)
    (v : Value) (xs : List Value) (hs : a.eval s = v) (hown : RowO w e v xs)
    (A : Option Addr) (m c : Nat) (news : List Value) (hx : a.eval x = .slice A m c) (hl : news.length = m) (hA : 0 < m → ∃ ad, A = some ad ∧ ∀ j u, news[j]? = some u → w.cell? (ad.add j) = some u) (h1 : ∀ u ∈ news, u.oneCell' = true)
    (hbytes : (xs.length + m) * bytes ≤ 140737488355328) (h63 : xs.length + m ≤ 140737488355328)
    (h : ∀ v' w', AppO w w' e v v' xs news → wpList P ops Q rest (a.put o.dst v') w') :
    wpList P ops Q (o :: rest) a w := by
  obtain ⟨i0, hi, hz0, hz1, hz2⟩ := info_parts hinfo
  refine wpList_plain hgd fun K hK => ?_
  obtain ⟨v1, w1, hr, h2⟩ := run_append_O (P := P) w t o.type e i0 z bytes ht hi hz0 hz1 hz2 hzs v xs hown A m c news hl hA h1 hbytes h63
  unfold Oper.wp execOp
  simp only [ho, resolve, invoke, builtin, Sem.run_bind, Sem.run_pure, Result.andThen_ok, List.map_toArray, List.map_cons, List.map_nil, hs, hx, hr]
  exact hK _ _ (h v1 w1 h2)
end Go.Proofs.Ytccppjhkffmnaaa
