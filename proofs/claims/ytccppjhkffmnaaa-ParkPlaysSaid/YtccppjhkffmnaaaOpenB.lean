/- From a row's reading of its arguments to facts on cells: bytes; slices of numbers; slices of elements of several cells. -/
import Derived.Test.YtccppjhkffmnaaaBase
import Derived.ProofKit
import Derived.OpenShut
import Derived.Deep.Slices
namespace Go.Proofs.Ytccppjhkffmnaaa
set_option linter.unusedVariables false
set_option linter.unusedSimpArgs false
open Go.ChangeShapes Go.WideShapes Go.ChangeAt Go.RowKit

theorem wf_i64 {n : Int} (h : (Lit.int .i64 n).wf = true) : -9223372036854775808 ≤ n ∧ n ≤ 9223372036854775807 := by simpa [Lit.wf, IntKind.min, IntKind.max, IntKind.signed, IntKind.bits] using h
theorem wf_u8 {n : Int} (h : (Lit.int .u8 n).wf = true) : 0 ≤ n ∧ n ≤ 255 := by simpa [Lit.wf, IntKind.min, IntKind.max, IntKind.signed, IntKind.bits] using h

section
variable {H : Type} {enc : TypeId × Value → H} {P : Program} {w : World} {spare : Nat → Bool} {held : Bool}
/-- A []byte that is read: bytes. -/
theorem open_bytes {t e fuel : Nat} {cs : List Value} {x : DataW H × List MemPlace} (ht : P.underlying t = some (.slice e)) (he : P.underlying e = some (.int .u8)) (hc : P.cellsOf e = 1)
    (h : DataW.trod enc P w 0 spare held fuel t cs = some x) : ∃ (A : Option Addr) (bs : List UInt8) (c : Nat), cs = [.slice A bs.length c] ∧ bs.length ≤ c ∧ c ≤ 9223372036854775807 ∧ Bytes w A bs := by
  rcases open_ints ht he hc h with ⟨hcs, _⟩ | ⟨a, len, cap, zs, hcs, _, hl, hm, hz, _, hcell, hwz⟩
  · exact ⟨none, [], 0, hcs, by simp, by omega, by simp, fun h => by simp at h⟩
  · have hlz : len ≤ zs.length := by rw [hz]; split <;> omega
    have hl63 : cap ≤ 9223372036854775807 := by simpa [maxLen] using hm
    refine ⟨some a, (zs.take len).map fun z => UInt8.ofNat z.toNat, cap, ?_, ?_, hl63, ?_, fun _ => ⟨a, rfl, fun j hj => ?_⟩⟩
    · rw [hcs]; simp [Nat.min_eq_left hlz]
    · simp; omega
    · simp; omega
    · have hj' : j < len := by simp at hj; omega
      rw [hcell j (by omega)]
      have hb := wf_u8 (hwz _ (List.getElem_mem (show j < zs.length by omega)))
      have e : (((zs.take len).map fun z => UInt8.ofNat z.toNat).getD j 0) = UInt8.ofNat (zs[j]'(by omega)).toNat := by
        simp [List.getD_eq_getElem?_getD, hj', List.getElem?_eq_getElem (show j < zs.length by omega)]
      rw [e]
      have e2 : zs.getD j 0 = zs[j]'(by omega) := by simp [List.getD_eq_getElem?_getD, List.getElem?_eq_getElem (show j < zs.length by omega)]
      rw [e2]
      have e3 : (UInt8.ofNat (zs[j]'(by omega)).toNat).toNat = (zs[j]'(by omega)).toNat := by
        simp; omega
      rw [e3]
      congr 1
      congr 1
      omega

/-- Numbers that can be read. -/
def IntsAt (w : World) (A : Option Addr) (zs : List Int) : Prop :=
  (∀ z ∈ zs, -9223372036854775808 ≤ z ∧ z ≤ 9223372036854775807) ∧ zs.length ≤ 9223372036854775807 ∧ (0 < zs.length → ∃ b off, A = some ⟨b, off, none⟩ ∧ ∀ j z, zs[j]? = some z → w.cell? ⟨b, off + j, none⟩ = some (.int .i64 z))
theorem open_i64s {t e fuel : Nat} {cs : List Value} {x : DataW H × List MemPlace} (ht : P.underlying t = some (.slice e)) (he : P.underlying e = some (.int .i64)) (hc : P.cellsOf e = 1)
    (h : DataW.trod enc P w 0 spare held fuel t cs = some x) : ∃ (A : Option Addr) (zs : List Int) (c : Nat), cs = [.slice A zs.length c] ∧ zs.length ≤ c ∧ c ≤ 9223372036854775807 ∧ IntsAt w A zs := by
  rcases open_ints ht he hc h with ⟨hcs, _⟩ | ⟨a, len, cap, zs, hcs, _, hl, hm, hz, _, hcell, hwz⟩
  · exact ⟨none, [], 0, hcs, by simp, by omega, by simp, by simp, fun h => by simp at h⟩
  · have hlz : len ≤ zs.length := by rw [hz]; split <;> omega
    have hl63 : cap ≤ 9223372036854775807 := by simpa [maxLen] using hm
    refine ⟨some a, zs.take len, cap, ?_, ?_, hl63, fun z hz => wf_i64 (hwz z (List.mem_of_mem_take hz)), ?_, fun hp => ?_⟩
    · rw [hcs]; simp [Nat.min_eq_left hlz]
    · simp; omega
    · simp; omega
    · obtain ⟨b, off, spot⟩ := a
      have hp' : 0 < len := by simp at hp; omega
      have h0 := hcell 0 (by omega)
      have hsp : spot = none := by simpa [Addr.add] using World.cell?_spot h0
      subst hsp
      refine ⟨b, off, rfl, fun j z hj => ?_⟩
      rw [List.getElem?_take] at hj
      split at hj
      · have hjz := (List.getElem?_eq_some_iff.1 hj).1
        have := hcell j hjz
        have hadd : (⟨b, off, none⟩ : Addr).add j = ⟨b, off + j, none⟩ := by unfold Addr.add; split <;> simp_all
        rw [hadd] at this
        rw [this, List.getD_eq_getElem?_getD, hj]
        rfl
      · cases hj

/-- Elements of several cells: R says what an element's cells are. -/
def RowsAt {α : Type} (R : World → α → List Value → Prop) (size : Nat) (w : World) (A : Option Addr) (ds : List α) : Prop :=
  ds.length ≤ 9223372036854775807 ∧ (∀ d ∈ ds, ∃ c, R w d c) ∧ (0 < ds.length → ∃ b off, A = some ⟨b, off, none⟩ ∧ ∀ i d, ds[i]? = some d → ∃ c, R w d c ∧ c.length = size ∧ ∀ j u, c[j]? = some u → w.cell? ⟨b, off + i * size + j, none⟩ = some u)
theorem cells_get {a : Addr} {n : Nat} {cs : List Value} (h : w.cells? 0 a n = some cs) : cs.length = n ∧ ∀ j u, cs[j]? = some u → w.cell? (a.add j) = some u := by
  obtain ⟨_, h1, h2⟩ := World.cells?_some h
  refine ⟨h1, fun j u hu => ?_⟩
  have hj := (List.getElem?_eq_some_iff.1 hu).1
  rw [h2 j (by omega)]
  exact hu
theorem open_rows {α : Type} [Inhabited α] (R : World → α → List Value → Prop) (size : Nat) (hs : 0 < size) {t e fuel : Nat} {cs : List Value} {x : DataW H × List MemPlace} (ht : P.underlying t = some (.slice e)) (hc : P.cellsOf e = size)
    (hR : ∀ n cs y, DataW.trod enc P w 0 spare held n e cs = some y → ∃ d, R w d cs)
    (h : DataW.trod enc P w 0 spare held fuel t cs = some x) : ∃ (A : Option Addr) (ds : List α) (c : Nat), cs = [.slice A ds.length c] ∧ ds.length ≤ c ∧ c ≤ 9223372036854775807 ∧ RowsAt R size w A ds := by
  rcases Deep.open_slice ht h with ⟨hcs, _⟩ | ⟨a, len, cap, m, n, D, Pl, hcs, _, hl, hm, hmm, _, hel⟩
  · exact ⟨none, [], 0, hcs, by simp, by omega, by simp, by simp, fun h => by simp at h⟩
  · have hl63 : cap ≤ 9223372036854775807 := by simpa [maxLen] using hm
    have hlm : len ≤ m := by rw [hmm]; split <;> omega
    have each : ∀ i, i < len → ∃ y : α × List Value, R w y.1 y.2 ∧ w.cells? 0 (a.add (i * size)) size = some y.2 := by
      intro i hi
      obtain ⟨cs', h1, h2⟩ := hel i (by omega)
      obtain ⟨d, hd⟩ := hR _ _ _ h2
      exact ⟨(d, cs'), hd, by rw [hc] at h1; exact h1⟩
    obtain ⟨f, hf⟩ := Deep.choose_lt each
    refine ⟨some a, (List.range len).map fun i => (f i).1, cap, by rw [hcs]; simp, by simpa using hl, hl63, by simp; omega, ?_, fun hp => ?_⟩
    · intro d hd
      obtain ⟨i, hi, rfl⟩ := List.mem_map.1 hd
      exact ⟨_, (hf i (by simpa using hi)).1⟩
    · obtain ⟨b, off, spot⟩ := a
      have hp' : 0 < len := by simpa using hp
      obtain ⟨hl0, hc0⟩ := cells_get (hf 0 hp').2
      have hsp : spot = none := by
        have h0 := hc0 0 _ (List.getElem?_eq_getElem (show 0 < (f 0).2.length by omega))
        simpa [Addr.add] using World.cell?_spot h0
      subst hsp
      refine ⟨b, off, rfl, fun i d hd => ?_⟩
      have hi : i < len := by have := (List.getElem?_eq_some_iff.1 hd).1; simpa using this
      obtain ⟨hli, hci⟩ := cells_get (hf i hi).2
      have ed : d = (f i).1 := by
        simp [hi] at hd
        exact hd.symm
      refine ⟨(f i).2, ed ▸ (hf i hi).1, hli, fun j u hu => ?_⟩
      have := hci j u hu
      have hadd : ((⟨b, off, none⟩ : Addr).add (i * size)).add j = ⟨b, off + i * size + j, none⟩ := by
        unfold Addr.add
        by_cases h1 : i * size = 0 <;> by_cases h2 : j = 0 <;> simp [h1, h2]
      rwa [hadd] at this
end
end Go.Proofs.Ytccppjhkffmnaaa
