/- A block of bytes that may be written; '[]byte(s)' of a string that is no constant. -/
import Derived.Test.YtmkjonfdeolihaaBase
import Derived.Lib.ConvBytes
namespace Go.Proofs.Ytmkjonfdeolihaa
set_option linter.unusedVariables false
set_option linter.unusedSimpArgs false
open Go.RowKit

/-- Block b holds n bytes that may be written. -/
def U8Row (w : World) (b n : Nat) : Prop :=
  ∃ cur f, w.heap[b]? = some (.cells cur 5 f) ∧ (f = (0, 0) ∨ n ≤ f.1) ∧ ∀ j, j < n → ∃ z : Int, 0 ≤ z ∧ z ≤ 255 ∧ cur[j]? = some (.int .u8 z)
theorem U8Row.cell {w : World} {b n : Nat} (h : U8Row w b n) (j : Nat) (hj : j < n) : ∃ z : Int, 0 ≤ z ∧ z ≤ 255 ∧ w.cell? ⟨b, j, none⟩ = some (.int .u8 z) ∧ w.frozen? ⟨b, j, none⟩ = false := by
  obtain ⟨cur, f, hb, hf, hc⟩ := h
  obtain ⟨z, h1, h2, h3⟩ := hc j hj
  refine ⟨z, h1, h2, by rw [blk_cell hb]; exact h3, ?_⟩
  rcases hf with rfl | hf
  · exact blk_free hb j
  · obtain ⟨lo, hi⟩ := f
    simp only at hf
    simp [World.frozen?, hb]
    omega
theorem U8Row.chg {M : Nat → Obj → Prop} {w w' : World} {b n : Nat} (h : U8Row w b n) (hc : Chg M w w') (hm : ∀ c f, ¬ M b (.cells c 5 f)) : U8Row w' b n := by
  obtain ⟨cur, f, hb, hf, hz⟩ := h
  exact ⟨cur, f, hc.block _ _ hb (hm _ _), hf, hz⟩
theorem U8Row.set {w : World} {b n : Nat} (h : U8Row w b n) (b' j : Nat) (z : Int) (h0 : 0 ≤ z) (h1 : z ≤ 255) : U8Row (w.setCell ⟨b', j, none⟩ (.int .u8 z)) b n := by
  obtain ⟨cur, f, hb, hf, hz⟩ := h
  by_cases e : b = b'
  · subst e
    refine ⟨_, f, blk_set hb j _, hf, fun i hi => ?_⟩
    obtain ⟨y, y0, y1, hy⟩ := hz i hi
    rw [Array.getElem?_setIfInBounds]
    split
    · rename_i e
      subst e
      rw [if_pos (Array.getElem?_eq_some_iff.1 hy).1]
      exact ⟨z, h0, h1, rfl⟩
    · exact ⟨y, y0, y1, hy⟩
  · exact ⟨cur, f, blk_set_ne hb e _, hf, hz⟩
theorem U8Row.ofBytes {w : World} {b : Nat} {bs : List UInt8} (h : w.heap[b]? = some (.cells (bvals bs).toArray 5 (0, 0))) : U8Row w b bs.length := by
  refine ⟨_, _, h, .inl rfl, fun j hj => ⟨(bs.getD j 0).toNat, by omega, by have := (bs.getD j 0).toNat_lt; omega, ?_⟩⟩
  simpa using bvals_get bs j hj

theorem wpList_conv_sb {P : Program} {w : World} {ops : Array Oper} {rest : List Oper} {o : Oper} {a : Act} {Q : Exit → Act → World → Prop} (hgd : o.guard = none) (x : Operand) (src dst : TypeId)
    (ho : o.op = .convert src dst x) (hs : P.underlying src = some .string) (hd : P.underlying dst = some (.slice 5)) (he : P.underlying 5 = some (.int .u8)) (bs : List UInt8) (hx : a.eval x = .string ⟨bs.toArray⟩) (hn : bs.length ≤ 1000)
    (h : ∀ w' c, Bytes w' (some ⟨w.heap.size, 0, none⟩) bs → U8Row w' w.heap.size bs.length → Chg NoM w w' → w'.heap.size = w.heap.size + 1 → wpList P ops Q rest (a.put o.dst (.slice (some ⟨w.heap.size, 0, none⟩) bs.length c)) w') : wpList P ops Q (o :: rest) a w := by
  refine wpList_plain hgd fun K hK => ?_
  have hrun := Lib.run_convert_string_bytes (P := P) w src dst 5 ⟨bs.toArray⟩ hs hd he
  have e0 : (⟨bs.toArray⟩ : ByteArray).size = bs.length := by simp [ByteArray.size]
  rw [e0] at hrun
  unfold Oper.wp
  simp only [execOp, ho, Sem.run_bind, Sem.run_pure, Result.andThen_ok, hx, hrun]
  have hcell : ∀ j, j < bs.length → (Lib.bytesWorld w 5 ⟨bs.toArray⟩).cell? ⟨w.heap.size, j, none⟩ = some (.int .u8 (bs.getD j 0).toNat) := fun j hj => by
    have := Lib.bytesWorld_cell w 5 ⟨bs.toArray⟩ j (by rw [e0]; exact hj)
    simpa using this
  refine hK _ _ (h _ _ ⟨by omega, fun _ => ⟨_, rfl, fun j hj => ?_⟩⟩ ⟨_, _, Lib.bytesWorld_at_new w 5 ⟨bs.toArray⟩, .inr ?_, fun j hj => ?_⟩ ⟨rfl, rfl, rfl, by rw [Lib.bytesWorld_size]; omega, fun k o hk _ => by rw [Lib.bytesWorld_at_old w 5 _ k (lt_of_blk hk)]; exact hk⟩ (Lib.bytesWorld_size w 5 _))
  · have hadd : (⟨w.heap.size, 0, none⟩ : Addr).add j = ⟨w.heap.size, j, none⟩ := by unfold Addr.add; split <;> simp_all
    rw [hadd]
    exact hcell j hj
  · simp [Lib.bytesCells]
  · refine ⟨(bs.getD j 0).toNat, by omega, by have := (bs.getD j 0).toNat_lt; omega, ?_⟩
    have h1 := hcell j hj
    rw [blk_cell (Lib.bytesWorld_at_new w 5 ⟨bs.toArray⟩)] at h1
    exact h1
end Go.Proofs.Ytmkjonfdeolihaa
