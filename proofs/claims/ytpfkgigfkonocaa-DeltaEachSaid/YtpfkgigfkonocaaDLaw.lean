/- The plain law of a delta: keys by their last change. -/
import Derived.Test.YtpfkgigfkonocaaBase
namespace Go.Proofs.Ytpfkgigfkonocaa
set_option linter.unusedVariables false
set_option linter.unusedSimpArgs false

theorem snoc_ind {α : Type} {Q : List α → Prop} (h0 : Q []) (h1 : ∀ l x, Q l → Q (l ++ [x])) (l : List α) : Q l := by
  have h : ∀ r : List α, Q r.reverse := by
    intro r
    induction r with
    | nil => exact h0
    | cons x r ih => rw [List.reverse_cons]; exact h1 _ _ ih
  have := h l.reverse
  rwa [List.reverse_reverse] at this
/-- Where a key has changed last: the changes in their row, the last one first. -/
def posR (f : Int) : List ByteArray → ByteArray → Int
  | [], _ => 0
  | s :: r, x => if s = x then f + 1 + r.length else posR f r x
def posOf (f : Int) (own : List ByteArray) (x : ByteArray) : Int := posR f own.reverse x
theorem posOf_nil (f : Int) (x : ByteArray) : posOf f [] x = 0 := rfl
theorem posOf_snoc (f : Int) (own : List ByteArray) (s x : ByteArray) : posOf f (own ++ [s]) x = if s = x then f + 1 + own.length else posOf f own x := by
  unfold posOf
  rw [List.reverse_append]
  simp [posR]
def zed (f : Int) (own : List ByteArray) : List (ByteArray × Int) := own.zipIdx.map fun p => (p.1, f + 1 + (p.2 : Int))
theorem zed_len (f : Int) (own : List ByteArray) : (zed f own).length = own.length := by simp [zed]
theorem zed_snoc (f : Int) (own : List ByteArray) (s : ByteArray) : zed f (own ++ [s]) = zed f own ++ [(s, f + 1 + own.length)] := by
  simp [zed, List.zipIdx_append]
theorem zed_get (f : Int) (own : List ByteArray) (k : Nat) (s : ByteArray) (h : own[k]? = some s) : (zed f own)[k]? = some (s, f + 1 + k) := by
  simp [zed, h]
theorem zed_mem {f : Int} {own : List ByteArray} {q : ByteArray × Int} (h : q ∈ zed f own) : ∃ k : Nat, own[k]? = some q.1 ∧ q.2 = f + 1 + (k : Int) := by
  obtain ⟨k, hk⟩ := List.mem_iff_getElem?.1 h
  simp only [zed, List.getElem?_map, List.getElem?_zipIdx] at hk
  obtain ⟨p, hp, rfl⟩ := Option.map_eq_some_iff.1 hk
  obtain ⟨x, hx, rfl⟩ := Option.map_eq_some_iff.1 hp
  exact ⟨k, hx, by simp⟩
theorem zed_bd {f : Int} {own : List ByteArray} {q : ByteArray × Int} (h : q ∈ zed f own) : f < q.2 ∧ q.2 ≤ f + own.length := by
  obtain ⟨k, hk, h2⟩ := zed_mem h
  have := (List.getElem?_eq_some_iff.1 hk).1
  omega
/-- The keys, each with its last position, the one that has changed last behind all others. -/
def kof (f : Int) (own : List ByteArray) : List (ByteArray × Int) := (zed f own).filter fun q => decide (posOf f own q.1 = q.2)
def keysOf (f : Int) (own : List ByteArray) : List ByteArray := (kof f own).map (·.1)
theorem kof_pos {f : Int} {own : List ByteArray} {q : ByteArray × Int} (h : q ∈ kof f own) : posOf f own q.1 = q.2 := by
  have := (List.mem_filter.1 h).2
  simpa using this
theorem kof_bd {f : Int} {own : List ByteArray} {q : ByteArray × Int} (h : q ∈ kof f own) : f < q.2 ∧ q.2 ≤ f + own.length := zed_bd (List.mem_filter.1 h).1
theorem kof_snoc (f : Int) (own : List ByteArray) (s : ByteArray) : kof f (own ++ [s]) = (kof f own).filter (fun q => decide (q.1 ≠ s)) ++ [(s, f + 1 + own.length)] := by
  unfold kof
  rw [zed_snoc, List.filter_append, List.filter_filter]
  congr 1
  · apply List.filter_congr
    intro q hq
    rw [posOf_snoc]
    have hb := zed_bd hq
    by_cases h : s = q.1
    · rw [if_pos h]
      have h1 : ¬ (f + 1 + (own.length : Int) = q.2) := by omega
      simp [h1, ← h]
    · rw [if_neg h]
      simp [Ne.symm h]
  · simp [posOf_snoc]
theorem keys_snoc (f : Int) (own : List ByteArray) (s : ByteArray) : keysOf f (own ++ [s]) = (keysOf f own).filter (fun x => decide (x ≠ s)) ++ [s] := by
  unfold keysOf
  rw [kof_snoc, List.map_append, List.filter_map]
  rfl
theorem keys_mem (f : Int) (own : List ByteArray) (x : ByteArray) : x ∈ keysOf f own ↔ x ∈ own := by
  revert own
  refine snoc_ind (by simp [keysOf, kof, zed]) fun l s ih => ?_
  rw [keys_snoc, List.mem_append, List.mem_append, List.mem_filter, ih]
  by_cases h : x = s <;> simp [h]
theorem keys_nodup (f : Int) (own : List ByteArray) : (keysOf f own).Nodup := by
  revert own
  refine snoc_ind (by simp [keysOf, kof, zed]) fun l s ih => ?_
  rw [keys_snoc, List.nodup_append]
  refine ⟨ih.sublist List.filter_sublist, by simp, ?_⟩
  intro a ha b hb
  simp at hb
  subst hb
  have := (List.mem_filter.1 ha).2
  simpa using this
theorem kof_sorted (f : Int) (own : List ByteArray) : (kof f own).Pairwise (fun a b => a.2 < b.2) := by
  revert own
  refine snoc_ind (by simp [kof, zed]) fun l s ih => ?_
  rw [kof_snoc, List.pairwise_append]
  refine ⟨ih.sublist List.filter_sublist, by simp, ?_⟩
  intro a ha b hb
  simp at hb
  subst hb
  have := kof_bd (List.mem_filter.1 ha).1
  show a.2 < f + 1 + (l.length : Int)
  omega
theorem keys_len (f : Int) (own : List ByteArray) : (keysOf f own).length ≤ own.length := by
  unfold keysOf kof
  rw [List.length_map]
  have := List.length_filter_le (fun q => decide (posOf f own q.1 = q.2)) (zed f own)
  rw [zed_len] at this
  exact this
theorem kof_get {f : Int} {own : List ByteArray} {k : Nat} {s : ByteArray} (h : (keysOf f own)[k]? = some s) : (kof f own)[k]? = some (s, posOf f own s) := by
  simp only [keysOf, List.getElem?_map] at h
  obtain ⟨q, hq, rfl⟩ := Option.map_eq_some_iff.1 h
  rw [hq, kof_pos (List.mem_of_getElem? hq)]
theorem pos_none {f : Int} {own : List ByteArray} {x : ByteArray} (h : x ∉ own) : posOf f own x = 0 := by
  revert own
  refine fun {own} => snoc_ind (Q := fun own => x ∉ own → posOf f own x = 0) (fun _ => rfl) (fun l s ih h => ?_) own
  simp at h
  rw [posOf_snoc, if_neg (fun e => h.2 e.symm)]
  exact ih h.1
theorem pos_bd {f : Int} {own : List ByteArray} {x : ByteArray} (h : x ∈ own) : f < posOf f own x ∧ posOf f own x ≤ f + own.length := by
  obtain ⟨k, hk⟩ := List.mem_iff_getElem?.1 ((keys_mem f own x).2 h)
  exact kof_bd (List.mem_of_getElem? (kof_get hk))
/-- To cut one out of a list where all are different. -/
theorem cut_filter {l : List ByteArray} (hn : l.Nodup) {k : Nat} {s : ByteArray} (h : l[k]? = some s) : l.take k ++ l.drop (k + 1) = l.filter (fun x => decide (x ≠ s)) := by
  induction l generalizing k with
  | nil => simp at h
  | cons a r ih =>
    rw [List.nodup_cons] at hn
    cases k with
    | zero =>
      simp at h
      subst h
      have : r.filter (fun x => decide (x ≠ a)) = r := by
        rw [List.filter_eq_self]
        intro x hx
        simp
        rintro rfl
        exact hn.1 hx
      have e : r.filter (fun x => !decide (x = a)) = r := by simpa using this
      simp [e]
    | succ k =>
      have h' : r[k]? = some s := by simpa using h
      have hne : a ≠ s := by
        rintro rfl
        exact hn.1 (List.mem_of_getElem? h')
      have := ih hn.2 h'
      simp [hne]
      simpa using this
theorem first_nodup {l : List ByteArray} (hn : l.Nodup) {k : Nat} {s : ByteArray} (h : l[k]? = some s) : ∀ j, j < k → l[j]? ≠ some s := by
  intro j hj hjs
  obtain ⟨h1, h2⟩ := List.getElem?_eq_some_iff.1 h
  obtain ⟨h3, h4⟩ := List.getElem?_eq_some_iff.1 hjs
  exact (List.pairwise_iff_getElem.1 hn) j k h3 h1 hj (h4.trans h2.symm)
theorem filter_none {l : List ByteArray} {s : ByteArray} (h : s ∉ l) : l.filter (fun x => decide (x ≠ s)) = l := by
  rw [List.filter_eq_self]
  intro x hx
  simp
  rintro rfl
  exact h hx
/-- What has changed since. -/
def sinceL (f : Int) (own : List ByteArray) (n : Int) : List ByteArray := ((kof f own).filter (fun q => decide (n < q.2))).map (·.1)
theorem since_len (f : Int) (own : List ByteArray) (n : Int) : (sinceL f own n).length ≤ own.length := by
  have h1 := keys_len f own
  have h2 := List.length_filter_le (fun q => decide (n < q.2)) (kof f own)
  unfold sinceL
  rw [List.length_map]
  unfold keysOf at h1
  rw [List.length_map] at h1
  omega
theorem since_drop {f n : Int} {own : List ByteArray} {j : Nat} (hj' : j ≤ (keysOf f own).length) (h1 : ∀ q ∈ (kof f own).drop j, n < q.2) (h2 : ∀ i q, i + 1 = j → (kof f own)[i]? = some q → q.2 ≤ n) : sinceL f own n = (keysOf f own).drop j := by
  have hj : j ≤ (kof f own).length := by unfold keysOf at hj'; rwa [List.length_map] at hj'
  unfold sinceL keysOf
  rw [← List.map_drop]
  congr 1
  have hs := kof_sorted f own
  generalize kof f own = K at h1 h2 hs hj
  conv => lhs; rw [← List.take_append_drop j K]
  rw [List.filter_append]
  have e1 : (K.take j).filter (fun q => decide (n < q.2)) = [] := by
    rw [List.filter_eq_nil_iff]
    intro q hq
    simp
    obtain ⟨i, hi⟩ := List.mem_iff_getElem?.1 hq
    rw [List.getElem?_take] at hi
    split at hi
    · rename_i hij
      obtain ⟨i', rfl⟩ : ∃ i', i' + 1 = j := ⟨j - 1, by omega⟩
      obtain ⟨hil, hiq⟩ := List.getElem?_eq_some_iff.1 hi
      by_cases he : i = i'
      · subst he; exact h2 i q rfl hi
      · have hil' : i' < K.length := by
          rcases Nat.lt_or_ge i' K.length with h | h
          · exact h
          · omega
        have h3 := List.pairwise_iff_getElem.1 hs i i' hil hil' (by omega)
        have h4 := h2 i' _ rfl (List.getElem?_eq_getElem hil')
        rw [hiq] at h3
        omega
    · cases hi
  have e2 : (K.drop j).filter (fun q => decide (n < q.2)) = K.drop j := by
    rw [List.filter_eq_self]
    intro q hq
    simpa using h1 q hq
  rw [e1, e2, List.nil_append]
theorem since_snoc (f n : Int) (own : List ByteArray) (s : ByteArray) (h : n ≤ f + own.length) : sinceL f (own ++ [s]) n = (sinceL f own n).filter (fun x => decide (x ≠ s)) ++ [s] := by
  unfold sinceL
  rw [kof_snoc, List.filter_append, List.map_append, List.filter_map, List.filter_filter, List.filter_filter]
  congr 1
  · congr 1
    apply List.filter_congr
    intro q _
    simp [Bool.and_comm]
  · have : n < f + 1 + (own.length : Int) := by omega
    simp [this]
theorem since_end (f : Int) (own : List ByteArray) (n : Int) (h : f + own.length ≤ n) : sinceL f own n = [] := by
  unfold sinceL
  rw [List.map_eq_nil_iff, List.filter_eq_nil_iff]
  intro q hq
  have := kof_bd hq
  simp
  omega
/-- Asked from where it was, it is told as if it had begun there. -/
theorem since_later (a b : List ByteArray) : sinceL 0 (a ++ b) a.length = sinceL 0 b 0 := by
  revert b
  refine snoc_ind ?_ fun l s ih => ?_
  · rw [List.append_nil, since_end _ _ _ (by omega), since_end _ _ _ (by simp)]
  · rw [← List.append_assoc, since_snoc _ _ _ _ (by simp; omega), ih, since_snoc _ _ _ _ (by omega)]
end Go.Proofs.Ytpfkgigfkonocaa
