/- slices.Delete(s, 0, 1) at EDUs. -/
import Derived.Test.YtccppjhkffmnaaaPark
import Derived.Test.YtccppjhkffmnaaaRowO
namespace Go.Proofs.Ytccppjhkffmnaaa
set_option linter.unusedVariables false
set_option linter.unusedSimpArgs false
open Go.RowKit

/-- A row of EDUs, its block and capacity told. -/
def EAt (w : World) (g c : Nat) (l : List Edu) : Prop :=
  ∃ cur, w.heap[g]? = some (.cells cur 32 (0, 0)) ∧ l.length ≤ c ∧ c ≤ maxLen ∧ c * 11 ≤ cur.size ∧ cur.toList.take (l.length * 11) = ecells l
theorem EAt.row {w : World} {g c base : Nat} {l : List Edu} (h : EAt w g c l) (hb : base ≤ g) : ERow w base (.slice (some ⟨g, 0, none⟩) l.length c) l := by
  obtain ⟨cur, h1, h2, h3, h4, h5⟩ := h
  exact ⟨ecells_len l, .inr ⟨g, c, cur, rfl, hb, h1, h2, h3, h4, h5⟩⟩
theorem EAt.of {w : World} {g c base : Nat} {l : List Edu} {n : Nat} (h : ERow w base (.slice (some ⟨g, 0, none⟩) n c) l) : EAt w g c l ∧ base ≤ g ∧ n = l.length := by
  rcases h.2 with ⟨he, _⟩ | ⟨g', c', cur, he, hb, h1, h2, h3, h4, h5⟩
  · injection he with he; cases he
  · injection he with e1 e2 e3
    injection e1 with e1
    injection e1 with e1
    subst e1
    subst e3
    exact ⟨⟨cur, h1, h2, h3, h4, h5⟩, hb, e2⟩
theorem EAt.news {w : World} {g c : Nat} {l : List Edu} (h : EAt w g c l) (k : Nat) : ∀ j u, ((ecells l).drop (k * 11))[j]? = some u → w.cell? ⟨g, k * 11 + j, none⟩ = some u := by
  obtain ⟨cur, h1, h2, h3, h4, h5⟩ := h
  intro j u hu
  rw [List.getElem?_drop, ← h5, List.getElem?_take] at hu
  rw [blk_cell h1]
  split at hu
  · simpa using hu
  · cases hu

def GM (g : Nat) : Nat → Obj → Prop := fun k o => k = g ∧ ∃ cs f, o = .cells cs 32 f
/-- append(s[:0], s[1:]...), in place. -/
theorem run_shift {P : Program} (w : World) (t ty : TypeId) (i : TypeInfo) (ht : P.underlying t = some (.slice 32)) (hi : P.info? 32 = some i) (hs : i.size = 11) (g c : Nat) (l : List Edu) (h : EAt w g c l) (h0 : 0 < l.length)
    (A' : Option Addr) (hA : A' = (if c = 1 then some ⟨g, 0, none⟩ else (some (⟨g, 0, none⟩ : Addr)).map (·.add (1 * 11)))) :
    ∃ w', (Builtin.append_ #[t, t] ty #[.slice (some ⟨g, 0, none⟩) 0 c, .slice A' (l.length - 1) (c - 1)]).run P w = .ok (.slice (some ⟨g, 0, none⟩) (l.length - 1) c) w' ∧ EAt w' g c (l.drop 1) ∧ Chg (GM g) w w' := by
  have hE := h
  obtain ⟨cur, h1, h2, h3, h4, h5⟩ := h
  by_cases hm : l.length - 1 = 0
  · refine ⟨w, ?_, ⟨cur, h1, by simp; omega, h3, h4, ?_⟩, Chg.refl _⟩
    · rw [hm]
      cases A' <;> simp [Builtin.append_, run_underlying ht, sizeOf, typeInfo, hi, Builtin.lenOf, Builtin.firstCells, storeCells, loadCells, loadCellsFrom]
    · have : l.drop 1 = [] := List.eq_nil_of_length_eq_zero (by simp; omega)
      rw [this]
      simp [ecells]
  · rw [if_neg (by omega)] at hA
    have hadd : (⟨g, 0, none⟩ : Addr).add (1 * 11) = ⟨g, 11, none⟩ := by unfold Addr.add; split <;> simp_all
    simp only [Option.map_some, hadd] at hA
    subst hA
    have hlen : ((ecells l).drop 11).length = (l.length - 1) * 11 := by rw [List.length_drop, ecells_len]; omega
    have hr := run_append_room (P := P) w t ty 32 i ht hi g 0 c cur h1 ⟨g, 11, none⟩ (l.length - 1) (c - 1) ((ecells l).drop 11) (by rw [hs]; exact hlen) (fun j u hu => by
      have hadd : (⟨g, 11, none⟩ : Addr).add j = ⟨g, 11 + j, none⟩ := by unfold Addr.add; split <;> simp_all
      rw [hadd]
      exact hE.news 1 j u hu) (fun u hu => ecells_cell l u (List.mem_of_mem_drop hu)) (by omega) (by rw [hlen]; omega)
    simp only [Nat.zero_mul, Nat.zero_add, List.take_zero, List.nil_append] at hr
    refine ⟨_, hr, ⟨_, setRow_heap w g cur _ 32 (0, 0) h1, by simp; omega, h3, ?_, ?_⟩, (Chg.refl w).setRow (fun o ho => ⟨rfl, ?_⟩) _⟩
    · simp only [List.size_toArray, List.length_append, List.length_drop, Array.length_toList, ecells_len]
      omega
    · have e1 : ecells (l.drop 1) = (ecells l).drop 11 := ecells_drop l 1
      have e2 : (l.drop 1).length * 11 = ((ecells l).drop 11).length := by rw [hlen, List.length_drop]
      rw [e1, e2]
      exact List.take_left
    · rw [h1] at ho; cases ho; exact ⟨_, _, rfl⟩

theorem wpList_clear_one {ops : Array Oper} {rest : List Oper} {o : Oper} {a : Act} {w : World} {Q : Exit → Act → World → Prop} (hgd : o.guard = none) (x : Operand)
    (ho : o.op = .call { callee := .builtin .clear, args := #[x], argTypes := #[30] }) (g c c0 : Nat) (l : List Edu) (hx : a.eval x = .slice (some ⟨g, l.length * 11, none⟩) 1 c0) (h : EAt w g c l) (hc : l.length < c)
    (hK : ∀ w', EAt w' g c l → Chg (GM g) w w' → wpList Try.prog ops Q rest (a.put o.dst (.tuple #[])) w') : wpList Try.prog ops Q (o :: rest) a w := by
  obtain ⟨cur, h1, h2, h3, h4, h5⟩ := h
  have hz : (zeroValue 32).run Try.prog w = .ok Edu.zero.agg w := by kernel_rfl
  have hzc : (Builtin.zeroCells (Value.cells Edu.zero.agg) 1).toList = Edu.zero.cells := by kernel_rfl
  have hst := run_storeCells_cells (P := Try.prog) g (l.length * 11) Edu.zero.cells 0 w (fun j hj => by
      rw [blk_cell h1, Array.getElem?_eq_getElem (by simp [Edu.cells] at hj; omega)]; rfl) (fun j hj => blk_free h1 _) (fun u hu => ecells_cell [Edu.zero] u (by simpa [ecells] using hu))
  obtain ⟨cur', b1, b2, b3, b4, b5⟩ := setCells_blk g 32 (0, 0) Edu.zero.cells (l.length * 11) w cur h1 (by simp [Edu.cells]; omega)
  simp only [Nat.add_zero] at hst
  refine wpList_plain hgd fun K' hK' => ?_
  have hrun : (Builtin.clear_ #[30] o.type #[.slice (some ⟨g, l.length * 11, none⟩) 1 c0]).run Try.prog w = .ok (.tuple #[]) (w.setCells g (l.length * 11) Edu.zero.cells) := by
    simp [Builtin.clear_, run_underlying Try.underlying30, hz, hzc, hst, Result.andThen]
  unfold Oper.wp
  simp only [execOp, ho, resolve, invoke, builtin, Sem.run_bind, Sem.run_pure, Result.andThen_ok, List.map_toArray, List.map_cons, List.map_nil, hx, hrun]
  refine hK' _ _ (hK _ ⟨cur', b1, h2, h3, by omega, ?_⟩ (b5.mono (fun k o hk e => ⟨e, by subst e; rw [h1] at hk; cases hk; exact ⟨_, _, rfl⟩⟩)))
  rw [← h5]
  apply List.ext_getElem?
  intro j
  rw [List.getElem?_take, List.getElem?_take]
  split
  · rename_i hj
    have := b3 j hj
    simpa using this
  · rfl
theorem wpList_append_run {P : Program} {ops : Array Oper} {rest : List Oper} {o : Oper} {a : Act} {w w' : World} {Q : Exit → Act → World → Prop} (hgd : o.guard = none) (s x : Operand) (t : TypeId)
    (ho : o.op = .call { callee := .builtin .append, args := #[s, x], argTypes := #[t, t] }) {v : Value} (hrun : (Builtin.append_ #[t, t] o.type #[a.eval s, a.eval x]).run P w = .ok v w') (hK : wpList P ops Q rest (a.put o.dst v) w') : wpList P ops Q (o :: rest) a w := by
  refine wpList_plain hgd fun K' hK' => ?_
  unfold Oper.wp
  simp only [execOp, ho, resolve, invoke, builtin, Sem.run_bind, Sem.run_pure, Result.andThen_ok, List.map_toArray, List.map_cons, List.map_nil, hrun]
  exact hK' _ _ hK

set_option maxHeartbeats 1000000 in
theorem delete_first (g c k : Nat) (l : List Edu) (w : World) (h : EAt w g c l) (h0 : l.length = k + 1) (hn : k ≤ 1000) :
    Calls Try.prog 22 #[.slice (some ⟨g, 0, none⟩) (k + 1) c, .int .i64 0, .int .i64 1] w fun en w' => en = .returned (.slice (some ⟨g, 0, none⟩) k c) ∧ EAt w' g c (l.drop 1) ∧ Chg (GM g) w w' := by
  obtain ⟨i0, hi, hz0, hz1, hz2⟩ := info_parts Try.info32
  have hlc : k + 1 ≤ c := by rw [← h0]; exact h.choose_spec.2.1
  have hcm : c ≤ maxLen := h.choose_spec.2.2.1
  simp only [maxLen] at hcm
  have HH := Lib.hid h
  have HI := Lib.hid hi
  have HZ := Lib.hid hz1
  have H0 := Lib.hid h0
  have hcut1 : ∀ (W : World), ∃ v, (Instr.slice 30 (.slice (some ⟨g, 0, none⟩) (k + 1) c) (some (.int .i64 0)) (some (.int .i64 1)) (some (.int .i64 ((k : Int) + 1)))).run Try.prog W = .ok v W := fun W => by
    rw [run_slice_lhm (P := Try.prog) (w := W) 30 (some ⟨g, 0, none⟩) (k + 1) c (by kernel_rfl) .i64 .i64 .i64 0 1 ((k : Int) + 1) (by omega) (by omega) (by omega) (by omega)]
    rw [show Try.prog.elem 30 = 32 by kernel_rfl]
    simp [sizeOf, typeInfo, hi, Result.andThen]
  have hcut2 : ∀ W : World, (Instr.slice 30 (.slice (some ⟨g, 0, none⟩) (k + 1) c) none (some (.int .i64 0)) none).run Try.prog W = .ok (.slice (some ⟨g, 0, none⟩) 0 c) W := cut_h (P := Try.prog) 30 32 11 Try.underlying30 (by kernel_rfl) (some ⟨g, 0, none⟩) (k + 1) c 0 (by omega)
  obtain ⟨A', hcut3, hA'⟩ := cut_l (P := Try.prog) 30 32 11 Try.underlying30 (by kernel_rfl) (some ⟨g, 0, none⟩) (k + 1) c 1 (by omega)
  have hcut3' : ∀ W : World, (Instr.slice 30 (.slice (some ⟨g, 0, none⟩) (k + 1) c) (some (.int .i64 1)) none none).run Try.prog W = .ok (.slice A' k (c - 1)) W := hcut3
  have hcut4 : ∀ W : World, (Instr.slice 30 (.slice (some ⟨g, 0, none⟩) k c) (some (.int .i64 (k : Int))) (some (.int .i64 ((k : Int) + 1))) none).run Try.prog W = .ok (.slice (some ⟨g, k * 11, none⟩) 1 (c - k)) W := fun W => by
    rw [run_slice_lh (P := Try.prog) (w := W) 30 (some ⟨g, 0, none⟩) k c (by kernel_rfl) .i64 .i64 (k : Int) ((k : Int) + 1) (by omega) (by omega) (by omega)]
    rw [show Try.prog.elem 30 = 32 by kernel_rfl]
    have hne : c ≠ k := by omega
    have hadd : (⟨g, 0, none⟩ : Addr).add (k * 11) = ⟨g, k * 11, none⟩ := by unfold Addr.add; split <;> simp_all
    simp [sizeOf, typeInfo, hi, hz1, Result.andThen, sliced, hne, hadd]
  have HA := Lib.hid hA'
  obtain ⟨v1, hv1⟩ : ∃ v1, ∀ (W : World), (Instr.slice 30 (.slice (some ⟨g, 0, none⟩) (k + 1) c) (some (.int .i64 0)) (some (.int .i64 1)) (some (.int .i64 ((k : Int) + 1)))).run Try.prog W = .ok v1 W := by
    refine ⟨.slice (some ⟨g, 0, none⟩) 1 (k + 1), fun W => ?_⟩
    rw [run_slice_lhm (P := Try.prog) (w := W) 30 (some ⟨g, 0, none⟩) (k + 1) c (by kernel_rfl) .i64 .i64 .i64 0 1 ((k : Int) + 1) (by omega) (by omega) (by omega) (by omega)]
    rw [show Try.prog.elem 30 = 32 by kernel_rfl]
    have hadd : (⟨g, 0, none⟩ : Addr).add 0 = ⟨g, 0, none⟩ := by simp [Addr.add]
    simp [sizeOf, typeInfo, hi, hz1, Result.andThen, sliced, hadd]
  clear h hi hz0 hz1 hz2 hA' hcut3 hcut1 h0
  go_enter Try.func22, Try.ntmps22
  go_wp2_with fail
  refine wp_region_sig 6 (fun w' => Chg NoM w w') [.P [0, 1, 3, 4], .L [2, 5], .N [6, 7]] rfl (fun _ _ d _ _ h => by cases d <;> exact h) (fun _ h => h) (by kernel_rfl) ((Chg.refl _).drew) ?_
  apply sigP (Nat.le_refl _)
  · intro w'
    (simp only [wpPl, pickOps, List.filterMap_cons, List.filterMap_nil, List.getElem?_toArray, List.getElem?_cons_zero, List.getElem?_cons_succ]; iterate 4 (go_wp2; refine ⟨trivial, ?_⟩)); rfl
  apply sigL (by simp)
  · intro w' hS
    (simp only [wpPl, pickOps, List.filterMap_cons, List.filterMap_nil, List.getElem?_toArray, List.getElem?_cons_zero, List.getElem?_cons_succ]; iterate 2 (go_wp2; refine ⟨trivial, ?_⟩)); rfl
  apply sigN
  simp only [pickOps, List.filterMap_cons, List.filterMap_nil, List.getElem?_toArray, List.getElem?_cons_zero, List.getElem?_cons_succ]
  obtain ⟨w2, hrun, he2, hc2⟩ := run_shift (P := Try.prog) w.drew 30 30 i0 Try.underlying30 HI.out HZ.out g c l (HH.out) (by rw [H0.out]; omega) A' HA.out
  rw [H0.out] at hrun
  have he2 := Lib.hid he2
  have C2 : Hid (Chg (GM g) w w2) := (Chg.refl (M := GM g) w).drew.trans hc2
  have HR := Lib.hid hrun
  clear hrun hc2
  refine wpList_append_run rfl (.tmp 22) (.tmp 25) 30 rfl HR.out ?_
  go_wp2_with fail
  apply sigEnd
  have hl1 : (l.drop 1).length = k := by rw [List.length_drop, H0.out]; rfl
  have HL1 := Lib.hid hl1
  clear hl1
  go_wp2_with (refine wpList_clear_one rfl (.tmp 31) rfl g c (c - k) (l.drop 1) (by rw [HL1.out]; rfl) he2.out (by rw [HL1.out]; omega) ?_)
  intro w3 he3 hc3
  have HE3 := Lib.hid he3
  have C3 : Hid (Chg (GM g) w w3) := C2.out.trans hc3
  clear he3 hc3
  go_wp2_with fail
  go_ret
  exact ⟨rfl, by rw [List.drop_one]; exact HE3.out, C3.out⟩
end Go.Proofs.Ytccppjhkffmnaaa
