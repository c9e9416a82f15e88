/- Words of my own on worlds: 'Chg M w w'': every block of w that is not in M is in w' as it was; rows that may be cut short; laws for append. -/
import Derived.Test.YtccppjhkffmnaaaProg
import Derived.WalkKit
import Derived.WalkSpells
import Derived.WalkLawsBesides
import Derived.Deep.RegionHeld3
import Derived.Deep.QuietTactic
import Derived.BigQuiet
import Derived.Lib.Hide
import Derived.Laws.CopyOwn
import Derived.Deep.OwnRows
import Derived.Laws.BytesArg
namespace Go.Proofs.Ytccppjhkffmnaaa
set_option linter.unusedVariables false
set_option linter.unusedSimpArgs false
open Go.RowKit

/-- Every block of w that M does not name is in w' as it was. -/
structure Chg (M : Nat → Obj → Prop) (w w' : World) : Prop where
  os : w'.os = w.os
  tape : w'.tape = w.tape
  output : w'.output = w.output
  size : w.heap.size ≤ w'.heap.size
  block : ∀ k o, w.heap[k]? = some o → ¬ M k o → w'.heap[k]? = some o

def NoM : Nat → Obj → Prop := fun _ _ => False

theorem lt_of_blk {w : World} {k : Nat} {o : Obj} (h : w.heap[k]? = some o) : k < w.heap.size := (Array.getElem?_eq_some_iff.1 h).1

theorem Chg.refl {M : Nat → Obj → Prop} (w : World) : Chg M w w := ⟨rfl, rfl, rfl, Nat.le_refl _, fun _ _ h _ => h⟩
theorem Chg.trans {M : Nat → Obj → Prop} {a b c : World} (h : Chg M a b) (k : Chg M b c) : Chg M a c :=
  ⟨k.os.trans h.os, k.tape.trans h.tape, k.output.trans h.output, Nat.le_trans h.size k.size, fun i o hi hm => k.block i o (h.block i o hi hm) hm⟩
theorem Chg.mono {M M' : Nat → Obj → Prop} {a b : World} (h : Chg M a b) (hm : ∀ k o, a.heap[k]? = some o → M k o → M' k o) : Chg M' a b :=
  ⟨h.os, h.tape, h.output, h.size, fun i o hi hn => h.block i o hi (fun hM => hn (hm i o hi hM))⟩
/-- Two steps; what the second may change matters only where the first world had a block. -/
theorem Chg.then {M M' : Nat → Obj → Prop} {a b c : World} (h : Chg M a b) (k : Chg M' b c) (hm : ∀ i o, a.heap[i]? = some o → M' i o → M i o) : Chg M a c :=
  ⟨k.os.trans h.os, k.tape.trans h.tape, k.output.trans h.output, Nat.le_trans h.size k.size, fun i o hi hn => k.block i o (h.block i o hi hn) (fun h' => hn (hm i o hi h'))⟩
/-- .. the second changes one block that is new. -/
theorem Chg.thenNew {M : Nat → Obj → Prop} {a b c : World} {g : Nat} (h : Chg M a b) (k : Chg (fun i _ => i = g) b c) (hg : a.heap.size ≤ g) : Chg M a c :=
  h.then k fun i o hi e => by have := lt_of_blk hi; omega
/-- .. the second changes only blocks that are new to the first world. -/
theorem Chg.thenAll {M M' : Nat → Obj → Prop} {a b c : World} (h : Chg M a b) (k : Chg M' b c) (hm : ∀ i o, M' i o → a.heap.size ≤ i) : Chg M a c :=
  h.then k fun i o hi h' => absurd (lt_of_blk hi) (by have := hm i o h'; omega)
theorem Chg.ofNo {M : Nat → Obj → Prop} {a b : World} (h : Chg NoM a b) : Chg M a b := h.mono fun _ _ _ h => h.elim
theorem Chg.drew {M : Nat → Obj → Prop} {a w : World} (h : Chg M a w) : Chg M a w.drew := ⟨h.os, h.tape, h.output, h.size, h.block⟩
theorem Chg.ofDrew {M : Nat → Obj → Prop} {a w : World} (h : Chg M a.drew w) : Chg M a w := ⟨h.os, h.tape, h.output, h.size, h.block⟩
theorem Chg.ofDrewN {M : Nat → Obj → Prop} {a w : World} {n : Nat} (h : Chg M (a.drewN n) w) : Chg M a w := ⟨h.os, h.tape, h.output, h.size, h.block⟩
theorem Chg.drewN {M : Nat → Obj → Prop} {a w : World} (h : Chg M a w) (n : Nat) : Chg M a (w.drewN n) := ⟨h.os, h.tape, h.output, h.size, h.block⟩
theorem Chg.alloc {M : Nat → Obj → Prop} {a w : World} (h : Chg M a w) (o : Obj) : Chg M a (w.alloc o) :=
  h.trans ⟨rfl, rfl, rfl, by simp, fun k o' hk _ => by rw [Below.heap_alloc _ _ _ (lt_of_blk hk)]; exact hk⟩
theorem Chg.setCell {M : Nat → Obj → Prop} {a w : World} (h : Chg M a w) {p : Addr} (hp : ∀ o, a.heap[p.block]? = some o → M p.block o) (u : Value) : Chg M a (w.setCell p u) :=
  ⟨h.os, h.tape, h.output, by simpa [World.setCell] using h.size, fun k o hk hm => by
    by_cases e : k = p.block
    · subst e; exact absurd (hp o hk) hm
    · rw [Below.heap_setCell _ _ _ _ e]; exact h.block k o hk hm⟩
theorem Chg.setRow {M : Nat → Obj → Prop} {a w : World} (h : Chg M a w) {g : Nat} (hp : ∀ o, a.heap[g]? = some o → M g o) (cs : Array Value) : Chg M a (w.setRow g cs) :=
  ⟨h.os, h.tape, h.output, by simpa [World.setRow] using h.size, fun k o hk hm => by
    by_cases e : k = g
    · subst e; exact absurd (hp o hk) hm
    · rw [setRow_other w g k cs e]; exact h.block k o hk hm⟩
/-- A block that is not of the old world. -/
theorem new_blk {w : World} {k : Nat} {M : Nat → Obj → Prop} (h : w.heap.size ≤ k) : ∀ o, w.heap[k]? = some o → M k o := fun _ ho => absurd (lt_of_blk ho) (by omega)
/-- A store into a block that is new. -/
theorem Chg.setNew {M : Nat → Obj → Prop} {a w : World} (h : Chg M a w) {b off : Nat} {spot : Option Nat} {u : Value} (hb : a.heap.size ≤ b) : Chg M a (w.setCell ⟨b, off, spot⟩ u) := h.setCell (new_blk hb) u
theorem Chg.setAt {M : Nat → Obj → Prop} {a w : World} (h : Chg M a w) {b off : Nat} {spot : Option Nat} {u : Value} (hb : ∀ o, M b o) : Chg M a (w.setCell ⟨b, off, spot⟩ u) := h.setCell (fun o _ => hb o) u
theorem Chg.below {M : Nat → Obj → Prop} {w w' : World} (h : Chg M w w') {B : Nat} (hB : B ≤ w.heap.size) (hm : ∀ k o, M k o → B ≤ k) : Below B w w' :=
  ⟨h.os, h.tape, h.output, h.size, fun k hk => by
    have hlt : k < w.heap.size := by omega
    rw [h.block k _ (Array.getElem?_eq_getElem hlt) (fun hM => by have := hm _ _ hM; omega)]
    exact (Array.getElem?_eq_getElem hlt).symm⟩
theorem Chg.cell {M : Nat → Obj → Prop} {w w' : World} (h : Chg M w w') {p : Addr} {v : Value} (hc : w.cell? p = some v) (hm : ∀ o, w.heap[p.block]? = some o → ¬ M p.block o) : w'.cell? p = some v := by
  have hlt := World.block_lt_of_cell? w p hc
  have hb := Array.getElem?_eq_getElem hlt
  rw [World.cell?_of_block (w := w) (by rw [h.block _ _ hb (hm _ hb), hb])]
  exact hc
theorem Chg.cellNo {w w' : World} (h : Chg NoM w w') {p : Addr} {v : Value} (hc : w.cell? p = some v) : w'.cell? p = some v := h.cell hc fun _ _ h => h
theorem Chg.blkNo {w w' : World} (h : Chg NoM w w') {k : Nat} {o : Obj} (hc : w.heap[k]? = some o) : w'.heap[k]? = some o := h.block k o hc fun h => h

/-- Cells out of a whole block. -/
theorem blk_cell {w : World} {b : Nat} {cs : Array Value} {t : TypeId} {fr : Nat × Nat} (h : w.heap[b]? = some (.cells cs t fr)) (k : Nat) : w.cell? ⟨b, k, none⟩ = cs[k]? := by simp [World.cell?, h]
theorem blk_free {w : World} {b : Nat} {cs : Array Value} {t : TypeId} (h : w.heap[b]? = some (.cells cs t (0, 0))) (k : Nat) : w.frozen? ⟨b, k, none⟩ = false := by simp [World.frozen?, h]
theorem blk_set {w : World} {b : Nat} {cs : Array Value} {t : TypeId} {fr : Nat × Nat} (h : w.heap[b]? = some (.cells cs t fr)) (k : Nat) (v : Value) : (w.setCell ⟨b, k, none⟩ v).heap[b]? = some (.cells (cs.setIfInBounds k v) t fr) := by
  simp [World.setCell, Array.getElem?_modify, h]
theorem blk_set_ne {w : World} {b : Nat} {o : Obj} (h : w.heap[b]? = some o) {p : Addr} (hne : b ≠ p.block) (v : Value) : (w.setCell p v).heap[b]? = some o := by
  rw [Below.heap_setCell _ _ _ _ hne]; exact h
theorem blk_alloc {w : World} {b : Nat} {o : Obj} (h : w.heap[b]? = some o) (o' : Obj) : (w.alloc o').heap[b]? = some o := by
  rw [Below.heap_alloc _ _ _ (lt_of_blk h)]; exact h
theorem blk_new (w : World) (o : Obj) : (w.alloc o).heap[w.heap.size]? = some o := heap_alloc_new w o

theorem blk_ne {w : World} {a b : Nat} {c c' : Array Value} {t t' : TypeId} {f f' : Nat × Nat} (ha : w.heap[a]? = some (.cells c t f)) (hb : w.heap[b]? = some (.cells c' t' f')) (hne : t ≠ t') : a ≠ b := by
  rintro rfl
  rw [ha] at hb
  injection hb with hb
  injection hb with _ hb
  exact hne hb
/-- One block, of one type. -/
def BoxM (b t : Nat) : Nat → Obj → Prop := fun k o => k = b ∧ ∃ c f, o = .cells c t f
theorem BoxM.ne {b t t' k : Nat} {c : Array Value} {f : Nat × Nat} (h : t' ≠ t) : ¬ BoxM b t k (.cells c t' f) := by
  rintro ⟨_, c', f', h'⟩
  injection h' with _ h'
  exact h h'
theorem Chg.setBox {a w : World} {b t : Nat} {cs : Array Value} {f : Nat × Nat} (h : Chg (BoxM b t) a w) (hb : a.heap[b]? = some (.cells cs t f)) {off : Nat} {spot : Option Nat} {u : Value} : Chg (BoxM b t) a (w.setCell ⟨b, off, spot⟩ u) :=
  h.setCell (fun o ho => ⟨rfl, cs, f, Option.some.inj (ho.symm.trans hb)⟩) u
theorem BoxM.new {a : World} {b t : Nat} (h : a.heap.size ≤ b) : ∀ i o, BoxM b t i o → a.heap.size ≤ i := fun i o hi => by rw [hi.1]; exact h
/-- Bytes that can be read. -/
def Bytes (w : World) (A : Option Addr) (bs : List UInt8) : Prop :=
  bs.length ≤ 9223372036854775807 ∧ (0 < bs.length → ∃ ad, A = some ad ∧ ∀ j, j < bs.length → w.cell? (ad.add j) = some (.int .u8 (bs.getD j 0).toNat))
def bvals (bs : List UInt8) : List Value := bs.map fun b => .int .u8 b.toNat
theorem bvals_len (bs : List UInt8) : (bvals bs).length = bs.length := by simp [bvals]
theorem bvals_get (bs : List UInt8) (j : Nat) (h : j < bs.length) : (bvals bs)[j]? = some (.int .u8 (bs.getD j 0).toNat) := by
  simp [bvals, List.getElem?_eq_getElem h, List.getD_eq_getElem?_getD]
theorem Bytes.chg {M : Nat → Obj → Prop} {w w' : World} {A : Option Addr} {bs : List UInt8} (h : Bytes w A bs) (hc : Chg M w w') (hm : ∀ ad o, A = some ad → w.heap[ad.block]? = some o → ¬ M ad.block o) : Bytes w' A bs :=
  ⟨h.1, fun hp => by
    obtain ⟨ad, e, hcell⟩ := h.2 hp
    refine ⟨ad, e, fun j hj => hc.cell (hcell j hj) ?_⟩
    intro o ho
    have eb : (ad.add j).block = ad.block := by unfold Addr.add; split <;> rfl
    rw [eb] at ho ⊢
    exact hm ad o e ho⟩

theorem Bytes.chgNo {w w' : World} {A : Option Addr} {bs : List UInt8} (h : Bytes w A bs) (hc : Chg NoM w w') : Bytes w' A bs := h.chg hc (fun _ _ _ _ h => h)
/-- Bytes in a block. -/
theorem bytes_blk {w : World} {b : Nat} {bs : List UInt8} {t : TypeId} {fr : Nat × Nat} (h : w.heap[b]? = some (.cells (bvals bs).toArray t fr)) (hn : bs.length ≤ 9223372036854775807) : Bytes w (some ⟨b, 0, none⟩) bs := by
  refine ⟨hn, fun _ => ⟨_, rfl, fun j hj => ?_⟩⟩
  have hadd : (⟨b, 0, none⟩ : Addr).add j = ⟨b, j, none⟩ := by unfold Addr.add; split <;> simp_all
  rw [hadd, blk_cell h]
  simpa using bvals_get bs j hj
/-- A row of its own that may be cut short: the slice begins at the head of the block; behind its capacity the block may go on. -/
def Row (w : World) (base : Nat) (e : TypeId) (size : Nat) (v : Value) (n : Nat) (xs : List Value) : Prop :=
  xs.length = n * size ∧
  ((v = .slice none 0 0 ∧ n = 0) ∨
   ∃ g cap cur, v = .slice (some ⟨g, 0, none⟩) n cap ∧ base ≤ g ∧ w.heap[g]? = some (.cells cur e (0, 0)) ∧ n ≤ cap ∧ cap ≤ maxLen ∧ cap * size ≤ cur.size ∧ cur.toList.take (n * size) = xs)
theorem Row.nil (w : World) (base : Nat) (e : TypeId) (size : Nat) : Row w base e size (.slice none 0 0) 0 [] := ⟨by simp, .inl ⟨rfl, rfl⟩⟩
theorem Row.chg {M : Nat → Obj → Prop} {w w' : World} {base : Nat} {e : TypeId} {size n : Nat} {v : Value} {xs : List Value} (h : Row w base e size v n xs) (hc : Chg M w w')
    (hm : ∀ g c f, v.ownBlock = some g → base ≤ g → ¬ M g (.cells c e f)) : Row w' base e size v n xs := by
  refine ⟨h.1, ?_⟩
  rcases h.2 with hn | ⟨g, cap, cur, rfl, hb, hh, r⟩
  · exact .inl hn
  · exact .inr ⟨g, cap, cur, rfl, hb, hc.block g _ hh (hm g _ _ rfl hb), r⟩
theorem Row.base {w : World} {base base' : Nat} {e : TypeId} {size n : Nat} {v : Value} {xs : List Value} (h : Row w base e size v n xs) (hb : base' ≤ base) : Row w base' e size v n xs := by
  refine ⟨h.1, ?_⟩
  rcases h.2 with hn | ⟨g, cap, cur, rfl, hb', r⟩
  · exact .inl hn
  · exact .inr ⟨g, cap, cur, rfl, by omega, r⟩
theorem Row.slice {w : World} {base : Nat} {e : TypeId} {size n : Nat} {v : Value} {xs : List Value} (h : Row w base e size v n xs) : ∃ A c, v = .slice A n c ∧ n ≤ c ∧ c ≤ maxLen := by
  rcases h.2 with ⟨rfl, rfl⟩ | ⟨g, cap, cur, rfl, _, _, h1, h2, _⟩
  · exact ⟨none, 0, rfl, Nat.le_refl _, by simp [maxLen]⟩
  · exact ⟨_, cap, rfl, h1, h2⟩
theorem Row.ownsRow {w : World} {base : Nat} {e : TypeId} {size n : Nat} {v : Value} {xs : List Value} (h : w.ownsRow base e size v n xs) : Row w base e size v n xs := by
  refine ⟨h.1, ?_⟩
  rcases h.2 with hn | ⟨g, cap, cur, rfl, hb, hh, h1, h2, h3, h4⟩
  · exact .inl hn
  · exact .inr ⟨g, cap, cur, rfl, hb, hh, h1, h2, by omega, h4⟩
theorem Row.cells {w : World} {base : Nat} {e : TypeId} {size n : Nat} {v : Value} {xs : List Value} (h : Row w base e size v n xs) (hn : 0 < n) :
    ∃ g cap, v = .slice (some ⟨g, 0, none⟩) n cap ∧ base ≤ g ∧ n ≤ cap ∧ cap ≤ maxLen ∧ (∃ cur, w.heap[g]? = some (.cells cur e (0, 0)) ∧ cap * size ≤ cur.size) ∧ ∀ j u, xs[j]? = some u → w.cell? ⟨g, j, none⟩ = some u := by
  rcases h.2 with ⟨_, h0⟩ | ⟨g, cap, cur, rfl, hb, hh, h1, h2, h3, h4⟩
  · omega
  · refine ⟨g, cap, rfl, hb, h1, h2, ⟨cur, hh, h3⟩, fun j u hu => ?_⟩
    rw [blk_cell hh]
    rw [← h4, List.getElem?_take] at hu
    split at hu
    · simpa using hu
    · cases hu

theorem Row.own_ge {w : World} {base : Nat} {e : TypeId} {size n : Nat} {v : Value} {xs : List Value} (h : Row w base e size v n xs) {k : Nat} (hk : v.ownBlock = some k) : base ≤ k := by
  rcases h.2 with ⟨rfl, _⟩ | ⟨g, cap, cur, rfl, hb, _⟩
  · simp [Value.ownBlock] at hk
  · simp [Value.ownBlock] at hk; omega
theorem Row.own_lt {w : World} {base : Nat} {e : TypeId} {size n : Nat} {v : Value} {xs : List Value} (h : Row w base e size v n xs) {k : Nat} (hk : v.ownBlock = some k) : k < w.heap.size := by
  rcases h.2 with ⟨rfl, _⟩ | ⟨g, cap, cur, rfl, hb, hh, _⟩
  · simp [Value.ownBlock] at hk
  · simp [Value.ownBlock] at hk; subst hk; exact lt_of_blk hh
theorem Row.own_ne {w : World} {base : Nat} {e : TypeId} {size n : Nat} {v : Value} {xs : List Value} (h : Row w base e size v n xs) {b : Nat} {c : Array Value} {t : TypeId} {f : Nat × Nat} (hb : w.heap[b]? = some (.cells c t f)) (hne : t ≠ e) : v.ownBlock ≠ some b := by
  intro hk
  rcases h.2 with ⟨rfl, _⟩ | ⟨g, cap, cur, rfl, _, hh, _⟩
  · simp [Value.ownBlock] at hk
  · simp [Value.ownBlock] at hk
    subst hk
    rw [hh] at hb
    cases hb
    exact hne rfl
theorem Chg.store (w : World) (p : Addr) (u : Value) : Chg (fun k _ => k = p.block) w (w.setCell p u) := (Chg.refl w).setCell (fun _ _ => rfl) u
/-- What lies in a block, as news for an append. -/
theorem news_blk {w : World} {g : Nat} {cs : List Value} {t : TypeId} {fr : Nat × Nat} (h : w.heap[g]? = some (.cells cs.toArray t fr)) : ∀ j u, cs[j]? = some u → w.cell? ((⟨g, 0, none⟩ : Addr).add j) = some u := by
  intro j u hu
  have hadd : (⟨g, 0, none⟩ : Addr).add j = ⟨g, j, none⟩ := by unfold Addr.add; split <;> simp_all
  rw [hadd, blk_cell h]
  simpa using hu

/-- A row's own cells, as news for an append. -/
theorem Row.news {w w' : World} {base : Nat} {e : TypeId} {size n c : Nat} {A : Option Addr} {xs : List Value} (h : Row w base e size (.slice A n c) n xs) (hc : Chg NoM w w') : 0 < n → ∃ ad, A = some ad ∧ ∀ j u, xs[j]? = some u → w'.cell? (ad.add j) = some u := by
  intro hp
  obtain ⟨g, cap, he, _, _, _, _, hcell⟩ := h.cells hp
  cases he
  refine ⟨_, rfl, fun j u hu => ?_⟩
  have hadd : (⟨g, 0, none⟩ : Addr).add j = ⟨g, j, none⟩ := by unfold Addr.add; split <;> simp_all
  rw [hadd]
  exact hc.cellNo (hcell j u hu)
/-- What an append to a row may change: that row's block. -/
def RowM (v : Value) (e : TypeId) : Nat → Obj → Prop := fun k o => v.ownBlock = some k ∧ ∃ c f, o = .cells c e f
theorem RowM.own {v : Value} {e : TypeId} {k : Nat} {o : Obj} (h : RowM v e k o) : v.ownBlock = some k := h.1
theorem RowM.ne {v : Value} {e t : TypeId} {k : Nat} {c : Array Value} {f : Nat × Nat} (h : t ≠ e) : ¬ RowM v e k (.cells c t f) := by
  rintro ⟨_, c', f', h'⟩
  injection h' with _ h'
  exact h h'
/-- What an append leaves. -/
structure AppRes (w w' : World) (base : Nat) (e : TypeId) (size : Nat) (v v' : Value) (n m : Nat) (xs news : List Value) : Prop where
  row : Row w' base e size v' (n + m) (xs ++ news)
  chg : Chg (RowM v e) w w'
  nil : v' = .slice none 0 0 ↔ v = .slice none 0 0 ∧ m = 0
  own : v'.ownBlock = v.ownBlock ∨ v'.ownBlock = some w.heap.size
/-- append(v, news...), v such a row, the news anywhere in memory. -/
theorem run_append_Row {P : Program} (w : World) (base : Nat) (t ty e : TypeId) (i : TypeInfo) (z : Value) (size bytes : Nat) (ht : P.underlying t = some (.slice e)) (hi : P.info? e = some i) (hz : i.zero = some z)
    (hsize : i.size = size) (hby : i.bytes = bytes) (hzs : z.cells.size = size) (hsz : 0 < size)
    (v : Value) (n : Nat) (xs : List Value) (hown : Row w base e size v n xs)
    (A : Option Addr) (m c : Nat) (news : List Value) (hl : news.length = m * size) (hA : 0 < m → ∃ ad, A = some ad ∧ ∀ j u, news[j]? = some u → w.cell? (ad.add j) = some u) (h1 : ∀ u ∈ news, u.oneCell' = true)
    (hbytes : (n + m) * bytes ≤ 140737488355328) (h63 : n + m ≤ 140737488355328) (hbase : base ≤ w.heap.size) :
    ∃ v' w', (Builtin.append_ #[t, t] ty #[v, .slice A m c]).run P w = .ok v' w' ∧ AppRes w w' base e size v v' n m xs news := by
  subst hsize
  subst hby
  have hsmall : n + m ≤ 9223372036854775807 := by omega
  have hm63 : n + m ≤ maxLen := by simp only [maxLen]; omega
  have hlen : (xs ++ news).length = (n + m) * i.size := by rw [List.length_append, hown.1, hl, Nat.add_mul]
  by_cases hm : m = 0
  · subst hm
    obtain rfl : news = [] := List.eq_nil_of_length_eq_zero (by simpa using hl)
    refine ⟨v, w, ?_, by simpa using hown, Chg.refl _, by simp, .inl rfl⟩
    rcases hown.2 with ⟨rfl, rfl⟩ | ⟨g, cap, cur, rfl, _, _, hnc, _⟩
    · cases A <;> simp [Builtin.append_, run_underlying ht, sizeOf, typeInfo, hi, Builtin.lenOf, Builtin.firstCells, loadCells, loadCellsFrom]
    · cases A <;> simp [Builtin.append_, run_underlying ht, sizeOf, typeInfo, hi, Builtin.lenOf, Builtin.firstCells, hnc, storeCells, loadCells, loadCellsFrom]
  · obtain ⟨a, rfl, hnews⟩ := hA (by omega)
    have grown : ∀ (old : Nat), old < n + m →
        Row (w.drew.alloc (.cells (xs.toArray ++ news.toArray ++ Builtin.zeroCells z.cells (grownCap w (n + m) old e - (n + m))) e)) base e i.size
          (.slice (some ⟨w.heap.size, 0, none⟩) (n + m) (grownCap w (n + m) old e)) (n + m) (xs ++ news) := by
      intro old ho
      have hge := grownCap_ge w (n + m) old e
      have hcm : grownCap w (n + m) old e ≤ maxLen := grownCap_le_maxLen w (n + m) old e hm63
      refine ⟨hlen, .inr ⟨w.heap.size, _, _, rfl, hbase, heap_alloc_new w.drew _, hge, hcm, Nat.le_of_eq ?_, ?_⟩⟩
      · simp only [Array.size_append, List.size_toArray, size_zeroCells, hzs, hown.1, hl, ← Nat.add_mul]
        congr 1
        omega
      · simp only [Array.toList_append, List.append_assoc]
        rw [← List.append_assoc, ← hlen]
        exact List.take_left
    rcases hown.2 with ⟨rfl, rfl⟩ | ⟨g, cap, cur, rfl, hbg, hg, hnc, hcm, hcs, htake⟩
    · have hx : xs = [] := List.eq_nil_of_length_eq_zero (by simpa using hown.1)
      subst hx
      have hr := run_append_nil (P := P) w t ty e i z ht hi hz a m c news hl hnews (by omega) (by omega) (by have hb := hbytes; simp only [Nat.zero_add] at hb; omega)
      have hgr := grown 0 (by omega)
      simp only [Nat.zero_add, List.nil_append, Array.empty_append] at hgr
      exact ⟨_, _, hr, by simpa using hgr, ((Chg.refl w).drew).alloc _, by simp [hm], .inr rfl⟩
    · by_cases hroom : n + m ≤ cap
      · have hfit : n * i.size + news.length ≤ cur.size := by rw [hl, ← Nat.add_mul]; exact Nat.le_trans (Nat.mul_le_mul_right _ hroom) hcs
        have hr := run_append_room (P := P) w t ty e i ht hi g n cap cur hg a m c news hl hnews h1 hroom hfit
        refine ⟨_, _, hr, ⟨hlen, .inr ⟨g, cap, _, rfl, hbg, setRow_heap w g cur _ e _ hg, hroom, hcm, ?_, ?_⟩⟩, (Chg.refl w).setRow (fun o ho => ⟨by simp [Value.ownBlock], ?_⟩) _, by simp, .inl rfl⟩
        · simp only [List.size_toArray, List.length_append, List.length_take, List.length_drop, Array.length_toList]
          omega
        · rw [htake, ← hlen]
          exact List.take_left
        · rw [hg] at ho; cases ho; exact ⟨_, _, rfl⟩
      · have holds : ∀ j u, xs[j]? = some u → w.cell? ((⟨g, 0, none⟩ : Addr).add j) = some u := by
          intro j u hu
          have hadd : (⟨g, 0, none⟩ : Addr).add j = ⟨g, j, none⟩ := by unfold Addr.add; split <;> simp_all
          rw [hadd, blk_cell hg]
          rw [← htake, List.getElem?_take] at hu
          split at hu
          · simpa using hu
          · cases hu
        have hr := run_append_grow (P := P) w t ty e i z ht hi hz ⟨g, 0, none⟩ n cap xs hown.1 holds a m c news hl hnews (by omega) (by omega) (growslice_fits (by omega) hbytes)
        exact ⟨_, _, hr, grown cap (by omega), ((Chg.refl w).drew).alloc _, by simp, .inr rfl⟩

/-- As one step of a region that draws its order, and of one that does not. -/
theorem step_append_Row {P : Program} {ops : Array Oper} {o : Oper} {a : Act} {Q : Exit → Act → World → Prop} {K : Act → World → Prop} {E : Prop} (w : World) (hw : Region.wanted o (yielded ops a.tmps) = true) (s x : Operand) (t : TypeId)
    (ho : o.op = .call { callee := .builtin .append, args := #[s, x], argTypes := #[t, t] }) (base : Nat) (e : TypeId) (z : Value) (size bytes : Nat)
    (ht : P.underlying t = some (.slice e)) (hinfo : (P.info? e).map (fun i => (i.zero, i.size, i.bytes)) = some (some z, size, bytes)) (hzs : z.cells.size = size) (hsz : 0 < size)
    (v : Value) (n : Nat) (xs : List Value) (hs : a.eval s = v) (hown : Row w base e size v n xs)
    (A : Option Addr) (m c : Nat) (news : List Value) (hx : a.eval x = .slice A m c) (hl : news.length = m * size) (hA : 0 < m → ∃ ad, A = some ad ∧ ∀ j u, news[j]? = some u → w.cell? (ad.add j) = some u) (h1 : ∀ u ∈ news, u.oneCell' = true)
    (hbytes : (n + m) * bytes ≤ 140737488355328) (h63 : n + m ≤ 140737488355328) (hbase : base ≤ w.heap.size)
    (h : ∀ v' w', AppRes w w' base e size v v' n m xs news → K (a.put o.dst v') w') :
    if Region.wanted o (yielded ops a.tmps) = true then Oper.wp P o a w K Q else E := by
  obtain ⟨i0, hi, hz0, hz1, hz2⟩ := info_parts hinfo
  rw [if_pos hw]
  obtain ⟨v1, w1, hr, h2⟩ := run_append_Row (P := P) w base t o.type e i0 z size bytes ht hi hz0 hz1 hz2 hzs hsz v n xs hown A m c news hl hA h1 hbytes h63 hbase
  unfold Oper.wp execOp
  simp only [ho, resolve, invoke, builtin, Sem.run_bind, Sem.run_pure, Result.andThen_ok, List.map_toArray, List.map_cons, List.map_nil, hs, hx, hr]
  exact h v1 w1 h2
theorem wpList_append_Row {P : Program} {ops : Array Oper} {rest : List Oper} {o : Oper} {a : Act} {Q : Exit → Act → World → Prop} (w : World) (hgd : o.guard = none) (s x : Operand) (t : TypeId)
    (ho : o.op = .call { callee := .builtin .append, args := #[s, x], argTypes := #[t, t] }) (base : Nat) (e : TypeId) (z : Value) (size bytes : Nat)
    (ht : P.underlying t = some (.slice e)) (hinfo : (P.info? e).map (fun i => (i.zero, i.size, i.bytes)) = some (some z, size, bytes)) (hzs : z.cells.size = size) (hsz : 0 < size)
    (v : Value) (n : Nat) (xs : List Value) (hs : a.eval s = v) (hown : Row w base e size v n xs)
    (A : Option Addr) (m c : Nat) (news : List Value) (hx : a.eval x = .slice A m c) (hl : news.length = m * size) (hA : 0 < m → ∃ ad, A = some ad ∧ ∀ j u, news[j]? = some u → w.cell? (ad.add j) = some u) (h1 : ∀ u ∈ news, u.oneCell' = true)
    (hbytes : (n + m) * bytes ≤ 140737488355328) (h63 : n + m ≤ 140737488355328) (hbase : base ≤ w.heap.size)
    (h : ∀ v' w', AppRes w w' base e size v v' n m xs news → wpList P ops Q rest (a.put o.dst v') w') :
    wpList P ops Q (o :: rest) a w := by
  obtain ⟨i0, hi, hz0, hz1, hz2⟩ := info_parts hinfo
  refine wpList_plain hgd fun K hK => ?_
  obtain ⟨v1, w1, hr, h2⟩ := run_append_Row (P := P) w base t o.type e i0 z size bytes ht hi hz0 hz1 hz2 hzs hsz v n xs hown A m c news hl hA h1 hbytes h63 hbase
  unfold Oper.wp execOp
  simp only [ho, resolve, invoke, builtin, Sem.run_bind, Sem.run_pure, Result.andThen_ok, List.map_toArray, List.map_cons, List.map_nil, hs, hx, hr]
  exact hK _ _ (h v1 w1 h2)

theorem madeCells_one (z : Value) (n : Nat) : madeCells #[z] n = Array.replicate n z := by
  apply Array.ext
  · simp [madeCells]
  · intro i h1 h2
    simp [madeCells, Nat.mod_one]

/-- copy(dst, src): dst a fresh row of bytes, src bytes that can be read, as many. -/
theorem run_copy_fresh {P : Program} (w : World) (dT sT ty elem : TypeId) (hu : P.underlying dT = some (.slice elem)) (hsz : (P.info? elem).map (·.size) = some 1)
    (g dCap : Nat) (A : Option Addr) (sCap : Nat) (bs : List UInt8) (z : Value) (hg : w.heap[g]? = some (.cells (Array.replicate bs.length z) elem (0, 0))) (hb : Bytes w A bs) :
    ∃ w', (Builtin.copy_ #[dT, sT] ty #[.slice (some ⟨g, 0, none⟩) bs.length dCap, .slice A bs.length sCap]).run P w = .ok (goInt bs.length) w' ∧
      w'.heap[g]? = some (.cells (bvals bs).toArray elem (0, 0)) ∧ Chg (fun k _ => k = g) w w' := by
  by_cases h0 : bs.length = 0
  · obtain rfl : bs = [] := List.eq_nil_of_length_eq_zero h0
    exact ⟨w, run_copy_none (P := P) w dT sT ty elem _ _ _ _ _ _ hu hsz (by simp), by simpa [bvals] using hg, Chg.refl _⟩
  · obtain ⟨ad, rfl, hc⟩ := hb.2 (by omega)
    have hr := run_copy_row (P := P) w dT sT ty elem g 0 bs.length dCap ad bs.length sCap (Array.replicate bs.length z) elem (bvals bs) hu hsz hg (by simp [bvals]) (fun j v hv => by
      have hj : j < bs.length := by
        have := (List.getElem?_eq_some_iff.1 hv).1
        simpa [bvals] using this
      rw [bvals_get bs j hj] at hv
      cases hv
      exact hc j hj) (by simp [bvals]) (fun v hv => by simp only [bvals, List.mem_map] at hv; obtain ⟨q, _, rfl⟩ := hv; rfl)
    have e1 : (List.take 0 (Array.replicate bs.length z).toList ++ bvals bs ++ List.drop (0 + (bvals bs).length) (Array.replicate bs.length z).toList) = bvals bs := by simp [bvals]
    rw [e1, bvals_len] at hr
    exact ⟨_, hr, setRow_heap w g _ _ elem (0, 0) hg, (Chg.refl w).setRow (fun o _ => rfl) _⟩
theorem wpList_copy_fresh {P : Program} {w : World} {ops : Array Oper} {rest : List Oper} {o : Oper} {a : Act} {Q : Exit → Act → World → Prop} (hgd : o.guard = none) (d s : Operand) (dT sT : TypeId)
    (ho : o.op = .call { callee := .builtin .copy, args := #[d, s], argTypes := #[dT, sT] }) (elem : TypeId) (hu : P.underlying dT = some (.slice elem)) (hsz : (P.info? elem).map (·.size) = some 1)
    (g dCap : Nat) (A : Option Addr) (sCap : Nat) (bs : List UInt8) (z : Value) (hd : a.eval d = .slice (some ⟨g, 0, none⟩) bs.length dCap) (hs : a.eval s = .slice A bs.length sCap)
    (hg : w.heap[g]? = some (.cells (Array.replicate bs.length z) elem (0, 0))) (hb : Bytes w A bs)
    (h : ∀ w', w'.heap[g]? = some (.cells (bvals bs).toArray elem (0, 0)) → Chg (fun k _ => k = g) w w' → wpList P ops Q rest (a.put o.dst (goInt bs.length)) w') : wpList P ops Q (o :: rest) a w := by
  refine wpList_plain hgd fun K hK => ?_
  obtain ⟨w', hrun, h1, h2⟩ := run_copy_fresh (P := P) w dT sT o.type elem hu hsz g dCap A sCap bs z hg hb
  unfold Oper.wp
  simp only [execOp, ho, resolve, invoke, builtin, Sem.run_bind, Sem.run_pure, Result.andThen_ok, List.map_toArray, List.map_cons, List.map_nil, hd, hs, hrun]
  exact hK _ _ (h w' h1 h2)

/-- '[]byte("literal")': the bytes stay where they were built; the block is marked. -/
theorem run_conv_bytes {P : Program} (w : World) (t e : TypeId) (ht : P.underlying t = some (.slice e)) (he : P.underlying e = some (.int .u8)) (b n c : Nat) (cs : Array Value) (hb : w.heap[b]? = some (.cells cs e (0, 0))) :
    ∃ w', (convert t t (.slice (some ⟨b, 0, none⟩) n c)).run P w = .ok (.slice (some ⟨b, 0, none⟩) n c) w' ∧ w'.heap[b]? = some (.cells cs e (cs.size, cs.size + 1)) ∧ Chg (fun k _ => k = b) w w' := by
  have hsh : w.shape? b = some (e, cs.size) := by simp [World.shape?, hb]
  refine ⟨w.freeze ⟨b, cs.size, none⟩ 1, ?_, ?_, ?_⟩
  · simp [convert, run_underlying ht, run_underlying he, markStringish, hsh, Result.andThen]
  · simp [World.freeze, Array.getElem?_modify, hb]
  · exact ⟨rfl, rfl, rfl, by simp [World.freeze], fun k o hk hn => by simp [World.freeze, Array.getElem?_modify, hk, Ne.symm hn]⟩
theorem wpList_conv_bytes {P : Program} {w : World} {ops : Array Oper} {rest : List Oper} {o : Oper} {a : Act} {Q : Exit → Act → World → Prop} (hgd : o.guard = none) (x : Operand) (t : TypeId)
    (ho : o.op = .convert t t x) (e : TypeId) (ht : P.underlying t = some (.slice e)) (he : P.underlying e = some (.int .u8)) (b n c : Nat) (cs : Array Value) (hx : a.eval x = .slice (some ⟨b, 0, none⟩) n c) (hb : w.heap[b]? = some (.cells cs e (0, 0)))
    (h : ∀ w', w'.heap[b]? = some (.cells cs e (cs.size, cs.size + 1)) → Chg (fun k _ => k = b) w w' → wpList P ops Q rest (a.put o.dst (.slice (some ⟨b, 0, none⟩) n c)) w') : wpList P ops Q (o :: rest) a w := by
  refine wpList_plain hgd fun K hK => ?_
  obtain ⟨w', hrun, h1, h2⟩ := run_conv_bytes (P := P) w t e ht he b n c cs hb
  unfold Oper.wp
  simp only [execOp, ho, Sem.run_bind, Sem.run_pure, Result.andThen_ok, hx, hrun]
  exact hK _ _ (h w' h1 h2)

theorem strOfNums_bytes (bs : List UInt8) : strOfNums (bs.map fun b => (b.toNat : Int)) = ⟨bs.toArray⟩ := by
  unfold strOfNums
  congr 2
  rw [List.map_map]
  conv => rhs; rw [← List.map_id bs]
  exact List.map_congr_left fun b _ => by simp
/-- 'string(b)'. -/
theorem run_string_bytes {P : Program} (w : World) (src dst e : TypeId) (hs : P.underlying src = some (.slice e)) (he : P.underlying e = some (.int .u8)) (hd : P.underlying dst = some .string) (A : Option Addr) (bs : List UInt8) (c : Nat) (hb : Bytes w A bs) :
    (convert src dst (.slice A bs.length c)).run P w = .ok (.string ⟨bs.toArray⟩) w := by
  by_cases h0 : bs.length = 0
  · obtain rfl : bs = [] := List.eq_nil_of_length_eq_zero h0
    cases A with
    | none => exact run_convert_bytes_nil w src e hs he 0 c dst hd
    | some a => simp [convert, run_underlying hs, run_underlying he, run_underlying hd, Conv.bytesToString, loadCells, loadCellsFrom]; rfl
  · obtain ⟨ad, rfl, hc⟩ := hb.2 (by omega)
    obtain ⟨b, off, spot⟩ := ad
    have hsp : spot = none := by simpa [Addr.add] using World.cell?_spot (hc 0 (by omega))
    subst hsp
    rw [run_convert_bytes_arg w src e hs he b off bs.length c (bs.map fun b => (b.toNat : Int)) (by simp) (fun i hi => ?_) dst hd, strOfNums_bytes]
    have h := hc i hi
    have hadd : (⟨b, off, none⟩ : Addr).add i = ⟨b, off + i, none⟩ := by unfold Addr.add; split <;> simp_all
    rw [hadd] at h
    rw [h]
    simp [List.getD_eq_getElem?_getD, List.getElem?_eq_getElem hi]

/-- 's[m:]', whatever the world; where it begins is hidden. -/
theorem cut_l {P : Program} (t e size : Nat) (ht : P.underlying t = some (.slice e)) (hsz : (P.info? e).map (·.size) = some size) (A : Option Addr) (n c m : Nat) (hm : m ≤ n) :
    ∃ A' : Option Addr, (∀ W : World, (Instr.slice t (.slice A n c) (some (.int .i64 (m : Int))) none none).run P W = .ok (.slice A' (n - m) (c - m)) W) ∧ A' = (if c = m then A else A.map (·.add (m * size))) := by
  refine ⟨_, fun W => ?_, rfl⟩
  obtain ⟨i, hi, hs⟩ := Option.map_eq_some_iff.1 hsz
  have hel : P.elem t = e := by simp [Program.elem, ht]
  have hu : P.underlying t = some (.slice (P.elem t)) := by rw [hel]; exact ht
  rw [run_slice_l W t A n c hu .i64 (m : Int) (Int.natCast_nonneg _) (by omega), hel]
  simp [sizeOf, typeInfo, hi, hs, sliced, Result.andThen]
/-- 's[:k:k]'. -/
theorem cut_hm {P : Program} (t e size : Nat) (ht : P.underlying t = some (.slice e)) (hsz : (P.info? e).map (·.size) = some size) (A : Option Addr) (n c k : Nat) (hk : k ≤ c) :
    ∀ W : World, (Instr.slice t (.slice A n c) none (some (.int .i64 (k : Int))) (some (.int .i64 (k : Int)))).run P W = .ok (.slice A k k) W := by
  intro W
  obtain ⟨i, hi, hs⟩ := Option.map_eq_some_iff.1 hsz
  have hel : P.elem t = e := by simp [Program.elem, ht]
  have hu : P.underlying t = some (.slice (P.elem t)) := by rw [hel]; exact ht
  rw [run_slice_hm W t A n c hu .i64 .i64 (k : Int) (k : Int) (Int.natCast_nonneg _) (Int.le_refl _) (by omega), hel]
  have ha : ∀ a : Addr, a.add 0 = a := fun a => by simp [Addr.add]
  simp [sizeOf, typeInfo, hi, hs, sliced, Result.andThen, ha]
/-- 's[:k]'. -/
theorem cut_h {P : Program} (t e size : Nat) (ht : P.underlying t = some (.slice e)) (hsz : (P.info? e).map (·.size) = some size) (A : Option Addr) (n c k : Nat) (hk : k ≤ c) :
    ∀ W : World, (Instr.slice t (.slice A n c) none (some (.int .i64 (k : Int))) none).run P W = .ok (.slice A k c) W := by
  intro W
  obtain ⟨i, hi, hs⟩ := Option.map_eq_some_iff.1 hsz
  have hel : P.elem t = e := by simp [Program.elem, ht]
  have hu : P.underlying t = some (.slice (P.elem t)) := by rw [hel]; exact ht
  rw [run_slice_h W t A n c hu .i64 (k : Int) (Int.natCast_nonneg _) (by omega), hel]
  have ha : ∀ a : Addr, a.add 0 = a := fun a => by simp [Addr.add]
  simp [sizeOf, typeInfo, hi, hs, sliced, Result.andThen, ha]
/-- A row's head, cut to its first k elements with no room behind. -/
theorem Row.take {w : World} {base : Nat} {e : TypeId} {size n c : Nat} {A : Option Addr} {xs : List Value} (h : Row w base e size (.slice A n c) n xs) (k : Nat) (hk : k ≤ n) : Row w base e size (.slice A k k) k (xs.take (k * size)) := by
  have hks : k * size ≤ n * size := Nat.mul_le_mul_right _ hk
  refine ⟨by rw [List.length_take, h.1]; omega, ?_⟩
  rcases h.2 with ⟨he, h0⟩ | ⟨g, cap, cur, he, hb, hh, h1, h2, h3, h4⟩
  · cases he
    obtain rfl : k = 0 := by omega
    exact .inl ⟨rfl, rfl⟩
  · cases he
    have hkc : k * size ≤ c * size := Nat.mul_le_mul_right _ (by omega)
    refine .inr ⟨g, k, cur, rfl, hb, hh, Nat.le_refl _, by omega, by omega, ?_⟩
    rw [← h4, List.take_take, Nat.min_eq_left hks]
/-- The cells behind the first m elements, as news for an append. -/
theorem Row.drop {w : World} {base : Nat} {e : TypeId} {size n c : Nat} {A A' : Option Addr} {xs : List Value} (h : Row w base e size (.slice A n c) n xs) (m : Nat) (hm : m ≤ n) (hsz : 0 < size) (hA : A' = (if c = m then A else A.map (·.add (m * size)))) :
    0 < n - m → ∃ ad, A' = some ad ∧ ∀ j u, (xs.drop (m * size))[j]? = some u → w.cell? (ad.add j) = some u := by
  intro hp
  obtain ⟨g, cap, he, _, h1, _, _, hc⟩ := h.cells (by omega)
  cases he
  rw [if_neg (by omega)] at hA
  subst hA
  refine ⟨_, rfl, fun j u hu => ?_⟩
  rw [List.getElem?_drop] at hu
  have hadd : ((⟨g, 0, none⟩ : Addr).add (m * size)).add j = ⟨g, m * size + j, none⟩ := by
    unfold Addr.add
    by_cases h1 : m * size = 0 <;> by_cases h2 : j = 0 <;> simp [h1, h2]
  rw [hadd]
  exact hc _ u hu
end Go.Proofs.Ytccppjhkffmnaaa
