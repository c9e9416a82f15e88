/- A store of a slice into one cell of a box; what follows sees the box as a block. -/
import Derived.Test.YtccppjhkffmnaaaBase
namespace Go.Proofs.Ytccppjhkffmnaaa
set_option linter.unusedVariables false
set_option linter.unusedSimpArgs false
open Go.RowKit

theorem run_storeVar_one {P : Program} (w : World) (ty : TypeId) (g k : Nat) (A : Option Addr) (n c : Nat) (u : Value) (hi : (P.info? ty).map (·.size) = some 1) (hc : w.cell? ⟨g, k, none⟩ = some u) (hf : w.frozen? ⟨g, k, none⟩ = false) :
    (storeVar ty ⟨g, k, none⟩ (.slice A n c)).run P w = .ok () (w.setCell ⟨g, k, none⟩ (.slice A n c)) := by
  cases hq : P.info? ty with
  | none => simp [hq] at hi
  | some i =>
    have hs : i.size = 1 := by simpa [hq] using hi
    have hadd : (⟨g, k, none⟩ : Addr).add 0 = ⟨g, k, none⟩ := by simp [Addr.add]
    have hr := run_store P w ⟨g, k, none⟩ (.slice A n c) .plain rfl
    rw [hc, hf] at hr
    simp [storeVar, sizeOf, typeInfo, hq, Value.cells, hs, storeCells, hadd]
    exact hr
theorem wpList_store_box {P : Program} {ops : Array Oper} {rest : List Oper} {o : Oper} {a : Act} {w : World} {Q : Exit → Act → World → Prop} (hgd : o.guard = none) (ty : TypeId) (x v : Operand) (ho : o.op = .store ty x v)
    (g k : Nat) (hx : a.eval x = .pointer (some ⟨g, k, none⟩)) (A : Option Addr) (n c : Nat) (hv : a.eval v = .slice A n c) (t : TypeId) (old : Array Value) (hg : w.heap[g]? = some (.cells old t (0, 0))) (hi : (P.info? ty).map (·.size) = some 1) (hs : k < old.size)
    (hK : ∀ w', w'.heap[g]? = some (.cells (old.setIfInBounds k (.slice A n c)) t (0, 0)) → Chg (BoxM g t) w w' → w'.heap.size = w.heap.size → wpList P ops Q rest (a.put o.dst undef) w') : wpList P ops Q (o :: rest) a w := by
  refine wpList_plain hgd fun K' hK' => ?_
  have hrun := run_storeVar_one (P := P) w ty g k A n c _ hi (by rw [blk_cell hg, Array.getElem?_eq_getElem hs]) (blk_free hg k)
  unfold Oper.wp
  simp [execOp, ho, hx, hv, Instr.storeAt, Instr.sureAddr, hrun, Result.andThen]
  exact hK' _ _ (hK _ (blk_set hg k _) ((Chg.refl w).setBox hg) (by simp [World.setCell]))
end Go.Proofs.Ytccppjhkffmnaaa
