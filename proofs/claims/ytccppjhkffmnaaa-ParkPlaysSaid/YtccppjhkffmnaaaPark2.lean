/- Contracts of package park (layer 12): New, Put, Len, Lost, All. -/
import Derived.Test.YtccppjhkffmnaaaDel
namespace Go.Proofs.Ytccppjhkffmnaaa
set_option linter.unusedVariables false
set_option linter.unusedSimpArgs false
open Go.RowKit

theorem wpList_store_row {P : Program} {ops : Array Oper} {rest : List Oper} {o : Oper} {a : Act} {w : World} {Q : Exit → Act → World → Prop} (hgd : o.guard = none) (ty : TypeId) (x v : Operand) (ho : o.op = .store ty x v)
    (g : Nat) (hx : a.eval x = .pointer (some ⟨g, 0, none⟩)) (cs : Array Value) (hv : a.eval v = .agg cs) (t : TypeId) (old : Array Value) (hg : w.heap[g]? = some (.cells old t (0, 0))) (hi : (P.info? ty).map (·.size) = some cs.size) (hs : old.size = cs.size) (h1 : cs.all (·.oneCell') = true)
    (hK : ∀ w', w'.heap[g]? = some (.cells cs t (0, 0)) → Chg (BoxM g t) w w' → w'.heap.size = w.heap.size → wpList P ops Q rest (a.put o.dst undef) w') : wpList P ops Q (o :: rest) a w := by
  refine wpList_plain hgd fun K' hK' => ?_
  have hrun := run_storeVar_row (P := P) w g t ty old cs hg hi hs h1
  unfold Oper.wp
  simp [execOp, ho, hx, hv, Instr.storeAt, Instr.sureAddr, hrun, Result.andThen]
  exact hK' _ _ (hK _ (setRow_heap w g old cs t (0, 0) hg) ((Chg.refl w).setRow (fun o ho => ⟨rfl, by rw [hg] at ho; cases ho; exact ⟨_, _, rfl⟩⟩) _) (by simp))

theorem arr_one (e : Edu) : (e.arr).all (·.oneCell') = true := by simp [Value.oneCell']
theorem zarr_one : zarr.all (·.oneCell') = true := by simp [Value.oneCell']
/-- What a park is in memory. -/
def ParkAt (w : World) (base pb : Nat) (most : Int) (l : List Edu) (lost : Int) (v : Value) : Prop :=
  base ≤ pb ∧ w.heap[pb]? = some (.cells #[.int .i64 most, v, .int .i64 lost] 52 (0, 0)) ∧ ERow w base v l
/-- What one call of its methods may change. -/
def ParkX (pb : Nat) (v : Value) : Nat → Obj → Prop := fun k o => (k = pb ∧ ∃ c f, o = .cells c 52 f) ∨ RowM v 32 k o
theorem ParkX.ne {pb k : Nat} {v : Value} {c : Array Value} {t : TypeId} {f : Nat × Nat} (h1 : t ≠ 32) (h2 : t ≠ 52) : ¬ ParkX pb v k (.cells c t f) := by
  rintro (⟨_, c', f', h⟩ | h)
  · injection h with _ h; exact h2 h
  · exact RowM.ne h1 h
theorem ParkX.new {w : World} {base pb : Nat} {most lost : Int} {l : List Edu} {v : Value} (h : ParkAt w base pb most l lost v) : ∀ i o, ParkX pb v i o → base ≤ i := by
  rintro i o (⟨rfl, _⟩ | h')
  · exact h.1
  · exact Row.own_ge h.2.2 h'.own
theorem ParkX.old {w : World} {base pb : Nat} {most lost : Int} {l : List Edu} {v : Value} (h : ParkAt w base pb most l lost v) {i : Nat} {o : Obj} (hi : w.heap.size ≤ i) : ¬ ParkX pb v i o := by
  rintro (⟨rfl, _⟩ | h')
  · have := lt_of_blk h.2.1; omega
  · have := Row.own_lt h.2.2 h'.own; omega
theorem ParkAt.chg {M : Nat → Obj → Prop} {w w' : World} {base pb : Nat} {most lost : Int} {l : List Edu} {v : Value} (h : ParkAt w base pb most l lost v) (hc : Chg M w w')
    (h1 : ∀ c f, ¬ M pb (.cells c 52 f)) (h2 : ∀ g c f, v.ownBlock = some g → ¬ M g (.cells c 32 f)) : ParkAt w' base pb most l lost v :=
  ⟨h.1, hc.block _ _ h.2.1 (h1 _ _), Row.chg h.2.2 hc (fun g c f hg _ => h2 g c f hg)⟩
theorem ParkAt.chgNo {w w' : World} {base pb : Nat} {most lost : Int} {l : List Edu} {v : Value} (h : ParkAt w base pb most l lost v) (hc : Chg NoM w w') : ParkAt w' base pb most l lost v :=
  h.chg hc (fun _ _ h => h) (fun _ _ _ _ h => h)

/-- Where a new row may lie. -/
def OwnG (w : World) (v v' : Value) : Prop := ∀ g, v'.ownBlock = some g → v.ownBlock = some g ∨ w.heap.size ≤ g
theorem new_yes (n : Int) (w : World) (h1 : 1 ≤ n) (h2 : n ≤ 1000) :
    Calls Try.prog 9 #[.int .i64 n] w fun e w' => e = .returned (.tuple #[.pointer (some ⟨w.heap.size, 0, none⟩), .int .i64 0]) ∧ ParkAt w' w.heap.size w.heap.size n [] 0 (.slice none 0 0) ∧ w'.heap.size = w.heap.size + 1 ∧ Chg NoM w w' := by
  go_enter Try.func9, Try.ntmps9
  go_wp2
  go_ret2
  exact ⟨rfl, ⟨Nat.le_refl _, blk_new w _, Row.nil _ _ _ _⟩, by simp, (Chg.refl w).alloc _⟩
theorem new_no (n : Int) (w : World) (h : n < 1 ∨ 1000 < n) :
    Calls Try.prog 9 #[.int .i64 n] w fun e w' => e = .returned (.tuple #[.pointer none, .int .i64 1]) ∧ w = w' := by
  rcases h with h | h
  · go_enter Try.func9, Try.ntmps9
    go_wp2
    go_ret2
    exact ⟨rfl, rfl⟩
  · have h' : ¬ n < 1 := by omega
    go_enter Try.func9, Try.ntmps9
    go_wp2
    go_ret2
    exact ⟨rfl, rfl⟩
theorem len_any (base pb : Nat) (most lost : Int) (l : List Edu) (v : Value) (w : World) (hp : ParkAt w base pb most l lost v) :
    Calls Try.prog 20 #[.pointer (some ⟨pb, 0, none⟩)] w fun e w' => e = .returned (.int .i64 l.length) ∧ w = w' := by
  obtain ⟨Av, cv, rfl, _, _⟩ := Row.slice hp.2.2
  have k1 : w.cell? ⟨pb, 1, none⟩ = some (.slice Av l.length cv) := blk_cell hp.2.1 1
  clear hp
  go_enter Try.func20, Try.ntmps20
  go_wp2
  go_ret
  exact ⟨rfl, rfl⟩
theorem lost_any (base pb : Nat) (most lost : Int) (l : List Edu) (v : Value) (w : World) (hp : ParkAt w base pb most l lost v) :
    Calls Try.prog 14 #[.pointer (some ⟨pb, 0, none⟩)] w fun e w' => e = .returned (.int .i64 lost) ∧ w = w' := by
  have k1 : w.cell? ⟨pb, 2, none⟩ = some (.int .i64 lost) := blk_cell hp.2.1 2
  clear hp
  go_enter Try.func14, Try.ntmps14
  go_wp2
  go_ret
  exact ⟨rfl, rfl⟩
theorem all_any (base pb : Nat) (most lost : Int) (l : List Edu) (v : Value) (w : World) (hp : ParkAt w base pb most l lost v) (hn : l.length ≤ 1000) :
    Calls Try.prog 13 #[.pointer (some ⟨pb, 0, none⟩)] w fun e w' => ∃ v', e = .returned v' ∧ ERow w' w.heap.size v' l ∧ Chg NoM w w' := by
  obtain ⟨Av, cv, rfl, _, _⟩ := Row.slice hp.2.2
  have k1 : w.cell? ⟨pb, 1, none⟩ = some (.slice Av l.length cv) := blk_cell hp.2.1 1
  have HP := Lib.hid hp
  clear hp
  go_enter Try.func13, Try.ntmps13
  go_wp2_with fail
  refine (clone_any base cv Av l w HP.out.2.2 hn).mono ?_
  rintro e w' ⟨v', rfl, hr, hc⟩
  obtain ⟨A2, c2, rfl, _, _⟩ := Row.slice hr
  have HR := Lib.hid hr
  have HC := Lib.hid hc
  clear hr hc
  go_wp2_with fail
  go_ret
  exact ⟨_, rfl, HR.out, HC.out⟩

set_option maxHeartbeats 1000000 in
theorem put_has (base pb : Nat) (most lost : Int) (l : List Edu) (v : Value) (e : Edu) (w : World) (hp : ParkAt w base pb most l lost v) (he : e ∈ l) :
    Calls Try.prog 11 #[.pointer (some ⟨pb, 0, none⟩), e.agg] w fun en w' => en = .returned (.tuple #[.agg zarr, .bool false]) ∧ Chg NoM w w' := by
  obtain ⟨Av, cv, rfl, hcv, hcv2⟩ := Row.slice hp.2.2
  have hlw := lt_of_blk hp.2.1
  have hne : pb ≠ w.heap.size := by omega
  have hne1 : pb ≠ w.heap.size + 1 := by omega
  have HP := Lib.hid hp
  clear hp
  unfold Edu.agg
  go_enter Try.func11, Try.ntmps11
  go_wp2_with fail
  have cW : Chg NoM w ((w.alloc (.cells e.arr 32)).alloc (.cells zarr 32)) := ((Chg.refl _).alloc _).alloc _
  have bE : ((w.alloc (.cells e.arr 32)).alloc (.cells zarr 32)).heap[w.heap.size]? = some (.cells e.arr 32 (0, 0)) := blk_alloc (blk_new w _) _
  have bZ : ((w.alloc (.cells e.arr 32)).alloc (.cells zarr 32)).heap[w.heap.size + 1]? = some (.cells zarr 32 (0, 0)) := by
    have h := blk_new (w.alloc (.cells e.arr 32)) (.cells zarr 32)
    rwa [show (w.alloc (.cells e.arr 32)).heap.size = w.heap.size + 1 by simp] at h
  have zW : ((w.alloc (.cells e.arr 32)).alloc (.cells zarr 32)).heap.size = w.heap.size + 2 := by simp
  generalize (w.alloc (.cells e.arr 32)).alloc (.cells zarr 32) = W at cW bE bZ zW ⊢
  have BE := Lib.hid bE
  have BZ := Lib.hid bZ
  have ZW := Lib.hid zW
  have PW := Lib.hid (HP.out.chgNo cW)
  have CW := Lib.hid cW
  clear cW bE bZ zW
  refine wp_region_sig 5 (fun w' => Chg NoM W w') [.P [0, 1, 2], .L [3, 4], .K 5] rfl (fun _ _ d _ _ h => by cases d <;> exact h) (fun _ h => h) (by kernel_rfl) ((Chg.refl _).drew) ?_
  apply sigP (Nat.le_refl _)
  · intro w'
    (simp only [wpPl, pickOps, List.filterMap_cons, List.filterMap_nil, List.getElem?_toArray, List.getElem?_cons_zero, List.getElem?_cons_succ]; iterate 3 (go_wp2; refine ⟨trivial, ?_⟩)); rfl
  apply sigL (by simp)
  · intro w' hS
    have y0 := blk_cell (hS.blkNo PW.out.2.1) 1
    have hb : ∀ j, j < 11 → w'.cell? ⟨w.heap.size, j, none⟩ = e.arr[j]? := fun j _ => blk_cell (hS.blkNo BE.out) j
    have y_0 := hb 0 (by omega)
    have y_1 := hb 1 (by omega)
    have y_2 := hb 2 (by omega)
    have y_3 := hb 3 (by omega)
    have y_4 := hb 4 (by omega)
    have y_5 := hb 5 (by omega)
    have y_6 := hb 6 (by omega)
    have y_7 := hb 7 (by omega)
    have y_8 := hb 8 (by omega)
    have y_9 := hb 9 (by omega)
    have y_10 := hb 10 (by omega)
    simp only [Edu.cells, List.getElem?_cons_zero, List.getElem?_cons_succ, List.getElem?_toArray, Nat.add_zero] at y_0 y_1 y_2 y_3 y_4 y_5 y_6 y_7 y_8 y_9 y_10
    clear hb
    (simp only [wpPl, pickOps, List.filterMap_cons, List.filterMap_nil, List.getElem?_toArray, List.getElem?_cons_zero, List.getElem?_cons_succ]; iterate 2 (go_wp2; refine ⟨trivial, ?_⟩)); rfl
  apply sigK
  simp only [pickOps, List.filterMap_cons, List.filterMap_nil, List.getElem?_toArray, List.getElem?_cons_zero, List.getElem?_cons_succ]
  go_wp2_with fail
  refine (contains_yes base cv Av l e _ (PW.out.2.2.chgNo (Chg.refl W).drew) he).mono ?_
  rintro en w2 ⟨rfl, hc2⟩
  have C2 := Lib.hid ((CW.out.drew).trans hc2)
  have X2 := Lib.hid (((Chg.refl W).drew).trans hc2)
  have bz2 := hc2.blkNo (((Chg.refl (M := NoM) W).drew).blkNo BZ.out)
  have BZ2 := Lib.hid bz2
  have nz : w.heap.size + 1 < w2.heap.size := lt_of_blk bz2
  clear hc2
  clear bz2
  go_wp2_with fail
  refine ⟨X2.out, ?_⟩
  apply sigEnd
  go_wp2_with (refine wpList_store_row rfl 32 (.tmp 4) (.tmp 13) rfl (w.heap.size + 1) rfl zarr rfl 32 zarr BZ2.out (by kernel_rfl) rfl zarr_one ?_)
  intro w3 hb3 hc3 hs3
  have C3 := Lib.hid (C2.out.thenAll hc3 (fun i o h => by rw [h.1]; omega))
  have hb : ∀ j, j < 11 → w3.cell? ⟨w.heap.size + 1, j, none⟩ = zarr[j]? := fun j _ => blk_cell hb3 j
  have z_0 := hb 0 (by omega)
  have z_1 := hb 1 (by omega)
  have z_2 := hb 2 (by omega)
  have z_3 := hb 3 (by omega)
  have z_4 := hb 4 (by omega)
  have z_5 := hb 5 (by omega)
  have z_6 := hb 6 (by omega)
  have z_7 := hb 7 (by omega)
  have z_8 := hb 8 (by omega)
  have z_9 := hb 9 (by omega)
  have z_10 := hb 10 (by omega)
  simp only [Edu.cells, List.getElem?_cons_zero, List.getElem?_cons_succ, List.getElem?_toArray, Nat.add_zero] at z_0 z_1 z_2 z_3 z_4 z_5 z_6 z_7 z_8 z_9 z_10
  clear hb hb3 hc3 hs3
  go_wp2_with fail
  exact bodyPost_ret (v := .tuple #[.agg zarr, .bool false]) (by simp [results, Try.results11, go_sem, z_0, z_1, z_2, z_3, z_4, z_5, z_6, z_7, z_8, z_9, z_10]) rfl ⟨rfl, C3.out⟩

set_option maxHeartbeats 2000000 in
theorem put_room (base pb : Nat) (most lost : Int) (l : List Edu) (v : Value) (e : Edu) (w : World) (hp : ParkAt w base pb most l lost v) (he : e ∉ l) (hlt : (l.length : Int) < most) (hm : most ≤ 1000) :
    Calls Try.prog 11 #[.pointer (some ⟨pb, 0, none⟩), e.agg] w fun en w' => en = .returned (.tuple #[.agg zarr, .bool false]) ∧ ∃ v', ParkAt w' base pb most (l ++ [e]) lost v' ∧ OwnG w v v' ∧ Chg (ParkX pb v) w w' := by
  obtain ⟨Av, cv, rfl, hcv, hcv2⟩ := Row.slice hp.2.2
  have hlw := lt_of_blk hp.2.1
  have hne : pb ≠ w.heap.size := by omega
  have hne1 : pb ≠ w.heap.size + 1 := by omega
  have HP := Lib.hid hp
  clear hp
  unfold Edu.agg
  go_enter Try.func11, Try.ntmps11
  go_wp2_with fail
  have cW : Chg NoM w ((w.alloc (.cells e.arr 32)).alloc (.cells zarr 32)) := ((Chg.refl _).alloc _).alloc _
  have bE : ((w.alloc (.cells e.arr 32)).alloc (.cells zarr 32)).heap[w.heap.size]? = some (.cells e.arr 32 (0, 0)) := blk_alloc (blk_new w _) _
  have bZ : ((w.alloc (.cells e.arr 32)).alloc (.cells zarr 32)).heap[w.heap.size + 1]? = some (.cells zarr 32 (0, 0)) := by
    have h := blk_new (w.alloc (.cells e.arr 32)) (.cells zarr 32)
    rwa [show (w.alloc (.cells e.arr 32)).heap.size = w.heap.size + 1 by simp] at h
  have zW : ((w.alloc (.cells e.arr 32)).alloc (.cells zarr 32)).heap.size = w.heap.size + 2 := by simp
  generalize (w.alloc (.cells e.arr 32)).alloc (.cells zarr 32) = W at cW bE bZ zW ⊢
  have BE := Lib.hid bE
  have BZ := Lib.hid bZ
  have ZW := Lib.hid zW
  have PW := Lib.hid (HP.out.chgNo cW)
  have CW := Lib.hid cW
  clear cW bE bZ zW
  refine wp_region_sig 5 (fun w' => Chg NoM W w') [.P [0, 1, 2], .L [3, 4], .K 5] rfl (fun _ _ d _ _ h => by cases d <;> exact h) (fun _ h => h) (by kernel_rfl) ((Chg.refl _).drew) ?_
  apply sigP (Nat.le_refl _)
  · intro w'
    (simp only [wpPl, pickOps, List.filterMap_cons, List.filterMap_nil, List.getElem?_toArray, List.getElem?_cons_zero, List.getElem?_cons_succ]; iterate 3 (go_wp2; refine ⟨trivial, ?_⟩)); rfl
  apply sigL (by simp)
  · intro w' hS
    have y0 := blk_cell (hS.blkNo PW.out.2.1) 1
    have hb : ∀ j, j < 11 → w'.cell? ⟨w.heap.size, j, none⟩ = e.arr[j]? := fun j _ => blk_cell (hS.blkNo BE.out) j
    have y_0 := hb 0 (by omega)
    have y_1 := hb 1 (by omega)
    have y_2 := hb 2 (by omega)
    have y_3 := hb 3 (by omega)
    have y_4 := hb 4 (by omega)
    have y_5 := hb 5 (by omega)
    have y_6 := hb 6 (by omega)
    have y_7 := hb 7 (by omega)
    have y_8 := hb 8 (by omega)
    have y_9 := hb 9 (by omega)
    have y_10 := hb 10 (by omega)
    simp only [Edu.cells, List.getElem?_cons_zero, List.getElem?_cons_succ, List.getElem?_toArray, Nat.add_zero] at y_0 y_1 y_2 y_3 y_4 y_5 y_6 y_7 y_8 y_9 y_10
    clear hb
    (simp only [wpPl, pickOps, List.filterMap_cons, List.filterMap_nil, List.getElem?_toArray, List.getElem?_cons_zero, List.getElem?_cons_succ]; iterate 2 (go_wp2; refine ⟨trivial, ?_⟩)); rfl
  apply sigK
  simp only [pickOps, List.filterMap_cons, List.filterMap_nil, List.getElem?_toArray, List.getElem?_cons_zero, List.getElem?_cons_succ]
  go_wp2_with fail
  refine (contains_no base cv Av l e _ (PW.out.2.2.chgNo (Chg.refl W).drew) he).mono ?_
  rintro en w2 ⟨rfl, hc2⟩
  have X2 := Lib.hid (((Chg.refl W).drew).trans hc2)
  have C2 := Lib.hid (CW.out.trans X2.out)
  have P2 := Lib.hid (PW.out.chgNo X2.out)
  have BE2 := Lib.hid (X2.out.blkNo BE.out)
  have BZ2 := Lib.hid (X2.out.blkNo BZ.out)
  have nz2 : w.heap.size + 1 < w2.heap.size := lt_of_blk BZ2.out
  have B0 : Hid (base ≤ w2.heap.size) := Nat.le_trans (Nat.le_of_lt (Nat.lt_of_le_of_lt HP.out.1 hlw)) C2.out.size
  clear hc2
  go_wp2_with fail
  refine ⟨X2.out, ?_⟩
  apply sigEnd
  go_wp2_with fail
  refine wp_region_sig 7 (fun w' => Chg NoM w2 w') [.P [0, 1, 2, 3], .L [4, 5], .K 6, .N [7, 8, 9, 10]] rfl (fun _ _ d _ _ h => by cases d <;> exact h) (fun _ h => h) (by kernel_rfl) ((Chg.refl _).drew) ?_
  apply sigP (Nat.le_refl _)
  · intro w'
    (simp only [wpPl, pickOps, List.filterMap_cons, List.filterMap_nil, List.getElem?_toArray, List.getElem?_cons_zero, List.getElem?_cons_succ]; iterate 4 (go_wp2; refine ⟨trivial, ?_⟩)); rfl
  apply sigL (by simp)
  · intro w' hS
    have y0 := blk_cell (hS.blkNo P2.out.2.1) 1
    have hb : ∀ j, j < 11 → w'.cell? ⟨w.heap.size, j, none⟩ = e.arr[j]? := fun j _ => blk_cell (hS.blkNo BE2.out) j
    have y_0 := hb 0 (by omega)
    have y_1 := hb 1 (by omega)
    have y_2 := hb 2 (by omega)
    have y_3 := hb 3 (by omega)
    have y_4 := hb 4 (by omega)
    have y_5 := hb 5 (by omega)
    have y_6 := hb 6 (by omega)
    have y_7 := hb 7 (by omega)
    have y_8 := hb 8 (by omega)
    have y_9 := hb 9 (by omega)
    have y_10 := hb 10 (by omega)
    simp only [Edu.cells, List.getElem?_cons_zero, List.getElem?_cons_succ, List.getElem?_toArray, Nat.add_zero] at y_0 y_1 y_2 y_3 y_4 y_5 y_6 y_7 y_8 y_9 y_10
    clear hb
    (simp only [wpPl, pickOps, List.filterMap_cons, List.filterMap_nil, List.getElem?_toArray, List.getElem?_cons_zero, List.getElem?_cons_succ]; iterate 2 (go_wp2; refine ⟨trivial, ?_⟩)); rfl
  apply sigK
  simp only [pickOps, List.filterMap_cons, List.filterMap_nil, List.getElem?_toArray, List.getElem?_cons_zero, List.getElem?_cons_succ]
  go_wp2_with fail
  refine ⟨(Chg.refl w2).drew.alloc _, ?_⟩
  apply sigN
  simp only [pickOps, List.filterMap_cons, List.filterMap_nil, List.getElem?_toArray, List.getElem?_cons_zero, List.getElem?_cons_succ]
  refine wpList_append_Row _ rfl (.tmp 18) (.tmp 20) 30 rfl base 32 _ 11 112 Try.underlying30 Try.info32 rfl (by omega) (.slice Av l.length cv) l.length (ecells l) rfl ?c0 (some ⟨w2.heap.size, 0, none⟩) 1 1 (ecells [e]) rfl rfl ?c1 ?c2 ?c3 ?c4 ?c5 ?_
  case c0 => exact Row.chg P2.out.2.2 ((Chg.refl (M := NoM) w2).drew.alloc _) (fun _ _ _ _ _ h => h)
  case c1 => exact fun _ => ⟨_, rfl, news_blk (blk_new w2.drew _)⟩
  case c2 => exact ecells_cell _
  case c3 => omega
  case c4 => omega
  case c5 => have := B0.out; simp; omega
  intro v3 w3 R
  have hr3 := R.row
  rw [← ecells_append] at hr3
  have hR3 : ERow w3 base v3 (l ++ [e]) := by unfold ERow; rw [List.length_append]; exact hr3
  obtain ⟨A3, c3, rfl, hc3a, hc3b⟩ := hr3.slice
  have b3 := R.chg.block _ _ (blk_alloc P2.out.2.1 (.cells e.arr 32)) (RowM.ne (by decide))
  have k3 : w3.cell? ⟨pb, 1, none⟩ = some (.slice Av l.length cv) := blk_cell b3 1
  have f3 : w3.frozen? ⟨pb, 1, none⟩ = false := blk_free b3 1
  have own3 : Hid (∀ g, (Value.slice A3 (l.length + 1) c3).ownBlock = some g → (Value.slice Av l.length cv).ownBlock = some g ∨ w2.heap.size < g) := by
    intro g hg
    rcases R.own with h | h
    · rw [h] at hg; exact .inl hg
    · rw [h] at hg; simp at hg; exact .inr (by omega)
  have hb0 : ∀ g, (Value.slice Av l.length cv).ownBlock = some g → g < w.heap.size := fun g hg => Row.own_lt HP.out.2.2 hg
  have bz3 : w3.heap[w.heap.size + 1]? = some (.cells zarr 32 (0, 0)) := R.chg.block _ _ (blk_alloc BZ2.out _) (fun h => by have := hb0 _ h.own; omega)
  have C3 : Hid (Chg (ParkX pb (.slice Av l.length cv)) w w3) := ((C2.out.trans ((Chg.refl w2).drew.alloc _)).ofNo).then R.chg (fun i o _ h => .inr h)
  have P4 : Hid (ParkAt (w3.setCell ⟨pb, 1, none⟩ (.slice A3 (l.length + 1) c3)) base pb most (l ++ [e]) lost (.slice A3 (l.length + 1) c3)) :=
    ⟨HP.out.1, blk_set b3 1 _, Row.chg hR3 (Chg.store w3 ⟨pb, 1, none⟩ _) (fun g _ _ hg _ h => Row.own_ne hR3 b3 (by decide) (by rw [hg]; exact congrArg some h))⟩
  have bz4 : (w3.setCell ⟨pb, 1, none⟩ (.slice A3 (l.length + 1) c3)).heap[w.heap.size + 1]? = some (.cells zarr 32 (0, 0)) := blk_set_ne bz3 (Ne.symm hne1) _
  have C4 : Hid (Chg (ParkX pb (.slice Av l.length cv)) w (w3.setCell ⟨pb, 1, none⟩ (.slice A3 (l.length + 1) c3))) :=
    C3.out.setCell (fun o ho => .inl ⟨rfl, by rw [HP.out.2.1] at ho; cases ho; exact ⟨_, _, rfl⟩⟩) _
  have BZ4 := Lib.hid bz4
  have nz3 : w2.heap.size + 1 ≤ w3.heap.size := by have := R.chg.size; simpa using this
  clear R hr3 hR3 b3 bz3 bz4 hb0
  go_wp2_with fail
  apply sigEnd
  go_wp2_with fail
  have sW4 : w2.heap.size + 1 ≤ (w3.setCell ⟨pb, 1, none⟩ (.slice A3 (l.length + 1) c3)).heap.size := by simpa [World.setCell] using nz3
  generalize w3.setCell ⟨pb, 1, none⟩ (.slice A3 (l.length + 1) c3) = W4 at P4 BZ4 C4 sW4 ⊢
  clear k3 f3 C3
  have y0 := blk_cell P4.out.2.1 0
  have y1 := blk_cell P4.out.2.1 1
  have hle : (l.length : Int) + 1 ≤ most := by omega
  go_quiet (fail)
  go_wp2_with (refine wpList_store_row rfl 32 (.tmp 4) (.tmp 34) rfl (w.heap.size + 1) rfl zarr rfl 32 zarr BZ4.out (by kernel_rfl) rfl zarr_one ?_)
  intro w5 hb5 hc5 hs5
  have hc5' : Chg (BoxM (w.heap.size + 1) 32) W4 w5 := (((Chg.refl W4).drewN nq)).trans hc5
  have C5 : Hid (Chg (ParkX pb (.slice Av l.length cv)) w w5) := C4.out.thenAll hc5' (fun i o h => by rw [h.1]; omega)
  have P5 : Hid (ParkAt w5 base pb most (l ++ [e]) lost (.slice A3 (l.length + 1) c3)) := P4.out.chg hc5' (fun _ _ => BoxM.ne (by decide)) (fun g c f hg h => by
    rcases own3.out g hg with h' | h'
    · have := Row.own_lt HP.out.2.2 h'; have := h.1; omega
    · have := h.1; omega)
  have hb : ∀ j, j < 11 → w5.cell? ⟨w.heap.size + 1, j, none⟩ = zarr[j]? := fun j _ => blk_cell hb5 j
  have z_0 := hb 0 (by omega)
  have z_1 := hb 1 (by omega)
  have z_2 := hb 2 (by omega)
  have z_3 := hb 3 (by omega)
  have z_4 := hb 4 (by omega)
  have z_5 := hb 5 (by omega)
  have z_6 := hb 6 (by omega)
  have z_7 := hb 7 (by omega)
  have z_8 := hb 8 (by omega)
  have z_9 := hb 9 (by omega)
  have z_10 := hb 10 (by omega)
  simp only [Edu.cells, List.getElem?_cons_zero, List.getElem?_cons_succ, List.getElem?_toArray, Nat.add_zero] at z_0 z_1 z_2 z_3 z_4 z_5 z_6 z_7 z_8 z_9 z_10
  clear hb hb5 hc5 hs5 hc5'
  go_wp2_with fail
  exact bodyPost_ret (v := .tuple #[.agg zarr, .bool false]) (by simp [results, Try.results11, go_sem, z_0, z_1, z_2, z_3, z_4, z_5, z_6, z_7, z_8, z_9, z_10]) rfl ⟨rfl, _, P5.out, (fun g hg => by rcases own3.out g hg with h | h; exact .inl h; exact .inr (by have := C2.out.size; omega)), C5.out⟩
set_option maxHeartbeats 4000000 in
theorem put_full (base pb : Nat) (most lost : Int) (l : List Edu) (v : Value) (e f : Edu) (w : World) (hp : ParkAt w base pb most l lost v) (he : e ∉ l) (hge : most ≤ (l.length : Int)) (hm : l.length ≤ 1000) (hf : (l ++ [e])[0]? = some f) (h0 : 0 ≤ lost) (h1 : lost ≤ 4611686018427387904) :
    Calls Try.prog 11 #[.pointer (some ⟨pb, 0, none⟩), e.agg] w fun en w' => en = .returned (.tuple #[f.agg, .bool true]) ∧ ∃ v', ParkAt w' base pb most ((l ++ [e]).drop 1) (lost + 1) v' ∧ OwnG w v v' ∧ Chg (ParkX pb v) w w' := by
  have HF := Lib.hid hf
  clear hf
  obtain ⟨Av, cv, rfl, hcv, hcv2⟩ := Row.slice hp.2.2
  have hlw := lt_of_blk hp.2.1
  have hne : pb ≠ w.heap.size := by omega
  have hne1 : pb ≠ w.heap.size + 1 := by omega
  have HP := Lib.hid hp
  clear hp
  unfold Edu.agg
  go_enter Try.func11, Try.ntmps11
  go_wp2_with fail
  have cW : Chg NoM w ((w.alloc (.cells e.arr 32)).alloc (.cells zarr 32)) := ((Chg.refl _).alloc _).alloc _
  have bE : ((w.alloc (.cells e.arr 32)).alloc (.cells zarr 32)).heap[w.heap.size]? = some (.cells e.arr 32 (0, 0)) := blk_alloc (blk_new w _) _
  have bZ : ((w.alloc (.cells e.arr 32)).alloc (.cells zarr 32)).heap[w.heap.size + 1]? = some (.cells zarr 32 (0, 0)) := by
    have h := blk_new (w.alloc (.cells e.arr 32)) (.cells zarr 32)
    rwa [show (w.alloc (.cells e.arr 32)).heap.size = w.heap.size + 1 by simp] at h
  have zW : ((w.alloc (.cells e.arr 32)).alloc (.cells zarr 32)).heap.size = w.heap.size + 2 := by simp
  generalize (w.alloc (.cells e.arr 32)).alloc (.cells zarr 32) = W at cW bE bZ zW ⊢
  have BE := Lib.hid bE
  have BZ := Lib.hid bZ
  have ZW := Lib.hid zW
  have PW := Lib.hid (HP.out.chgNo cW)
  have CW := Lib.hid cW
  clear cW bE bZ zW
  refine wp_region_sig 5 (fun w' => Chg NoM W w') [.P [0, 1, 2], .L [3, 4], .K 5] rfl (fun _ _ d _ _ h => by cases d <;> exact h) (fun _ h => h) (by kernel_rfl) ((Chg.refl _).drew) ?_
  apply sigP (Nat.le_refl _)
  · intro w'
    (simp only [wpPl, pickOps, List.filterMap_cons, List.filterMap_nil, List.getElem?_toArray, List.getElem?_cons_zero, List.getElem?_cons_succ]; iterate 3 (go_wp2; refine ⟨trivial, ?_⟩)); rfl
  apply sigL (by simp)
  · intro w' hS
    have y0 := blk_cell (hS.blkNo PW.out.2.1) 1
    have hb : ∀ j, j < 11 → w'.cell? ⟨w.heap.size, j, none⟩ = e.arr[j]? := fun j _ => blk_cell (hS.blkNo BE.out) j
    have y_0 := hb 0 (by omega)
    have y_1 := hb 1 (by omega)
    have y_2 := hb 2 (by omega)
    have y_3 := hb 3 (by omega)
    have y_4 := hb 4 (by omega)
    have y_5 := hb 5 (by omega)
    have y_6 := hb 6 (by omega)
    have y_7 := hb 7 (by omega)
    have y_8 := hb 8 (by omega)
    have y_9 := hb 9 (by omega)
    have y_10 := hb 10 (by omega)
    simp only [Edu.cells, List.getElem?_cons_zero, List.getElem?_cons_succ, List.getElem?_toArray, Nat.add_zero] at y_0 y_1 y_2 y_3 y_4 y_5 y_6 y_7 y_8 y_9 y_10
    clear hb
    (simp only [wpPl, pickOps, List.filterMap_cons, List.filterMap_nil, List.getElem?_toArray, List.getElem?_cons_zero, List.getElem?_cons_succ]; iterate 2 (go_wp2; refine ⟨trivial, ?_⟩)); rfl
  apply sigK
  simp only [pickOps, List.filterMap_cons, List.filterMap_nil, List.getElem?_toArray, List.getElem?_cons_zero, List.getElem?_cons_succ]
  go_wp2_with fail
  refine (contains_no base cv Av l e _ (PW.out.2.2.chgNo (Chg.refl W).drew) he).mono ?_
  rintro en w2 ⟨rfl, hc2⟩
  have X2 := Lib.hid (((Chg.refl W).drew).trans hc2)
  have C2 := Lib.hid (CW.out.trans X2.out)
  have P2 := Lib.hid (PW.out.chgNo X2.out)
  have BE2 := Lib.hid (X2.out.blkNo BE.out)
  have BZ2 := Lib.hid (X2.out.blkNo BZ.out)
  have nz2 : w.heap.size + 1 < w2.heap.size := lt_of_blk BZ2.out
  have B0 : Hid (base ≤ w2.heap.size) := Nat.le_trans (Nat.le_of_lt (Nat.lt_of_le_of_lt HP.out.1 hlw)) C2.out.size
  clear hc2
  go_wp2_with fail
  refine ⟨X2.out, ?_⟩
  apply sigEnd
  go_wp2_with fail
  refine wp_region_sig 7 (fun w' => Chg NoM w2 w') [.P [0, 1, 2, 3], .L [4, 5], .K 6, .N [7, 8, 9, 10]] rfl (fun _ _ d _ _ h => by cases d <;> exact h) (fun _ h => h) (by kernel_rfl) ((Chg.refl _).drew) ?_
  apply sigP (Nat.le_refl _)
  · intro w'
    (simp only [wpPl, pickOps, List.filterMap_cons, List.filterMap_nil, List.getElem?_toArray, List.getElem?_cons_zero, List.getElem?_cons_succ]; iterate 4 (go_wp2; refine ⟨trivial, ?_⟩)); rfl
  apply sigL (by simp)
  · intro w' hS
    have y0 := blk_cell (hS.blkNo P2.out.2.1) 1
    have hb : ∀ j, j < 11 → w'.cell? ⟨w.heap.size, j, none⟩ = e.arr[j]? := fun j _ => blk_cell (hS.blkNo BE2.out) j
    have y_0 := hb 0 (by omega)
    have y_1 := hb 1 (by omega)
    have y_2 := hb 2 (by omega)
    have y_3 := hb 3 (by omega)
    have y_4 := hb 4 (by omega)
    have y_5 := hb 5 (by omega)
    have y_6 := hb 6 (by omega)
    have y_7 := hb 7 (by omega)
    have y_8 := hb 8 (by omega)
    have y_9 := hb 9 (by omega)
    have y_10 := hb 10 (by omega)
    simp only [Edu.cells, List.getElem?_cons_zero, List.getElem?_cons_succ, List.getElem?_toArray, Nat.add_zero] at y_0 y_1 y_2 y_3 y_4 y_5 y_6 y_7 y_8 y_9 y_10
    clear hb
    (simp only [wpPl, pickOps, List.filterMap_cons, List.filterMap_nil, List.getElem?_toArray, List.getElem?_cons_zero, List.getElem?_cons_succ]; iterate 2 (go_wp2; refine ⟨trivial, ?_⟩)); rfl
  apply sigK
  simp only [pickOps, List.filterMap_cons, List.filterMap_nil, List.getElem?_toArray, List.getElem?_cons_zero, List.getElem?_cons_succ]
  go_wp2_with fail
  refine ⟨(Chg.refl w2).drew.alloc _, ?_⟩
  apply sigN
  simp only [pickOps, List.filterMap_cons, List.filterMap_nil, List.getElem?_toArray, List.getElem?_cons_zero, List.getElem?_cons_succ]
  refine wpList_append_Row _ rfl (.tmp 18) (.tmp 20) 30 rfl base 32 _ 11 112 Try.underlying30 Try.info32 rfl (by omega) (.slice Av l.length cv) l.length (ecells l) rfl ?c0 (some ⟨w2.heap.size, 0, none⟩) 1 1 (ecells [e]) rfl rfl ?c1 ?c2 ?c3 ?c4 ?c5 ?_
  case c0 => exact Row.chg P2.out.2.2 ((Chg.refl (M := NoM) w2).drew.alloc _) (fun _ _ _ _ _ h => h)
  case c1 => exact fun _ => ⟨_, rfl, news_blk (blk_new w2.drew _)⟩
  case c2 => exact ecells_cell _
  case c3 => omega
  case c4 => omega
  case c5 => have := B0.out; simp; omega
  intro v3 w3 R
  have hr3 := R.row
  rw [← ecells_append] at hr3
  have hR3 : ERow w3 base v3 (l ++ [e]) := by unfold ERow; rw [List.length_append]; exact hr3
  obtain ⟨A3, c3, rfl, hc3a, hc3b⟩ := hr3.slice
  have b3 := R.chg.block _ _ (blk_alloc P2.out.2.1 (.cells e.arr 32)) (RowM.ne (by decide))
  have k3 : w3.cell? ⟨pb, 1, none⟩ = some (.slice Av l.length cv) := blk_cell b3 1
  have f3 : w3.frozen? ⟨pb, 1, none⟩ = false := blk_free b3 1
  have own3 : Hid (∀ g, (Value.slice A3 (l.length + 1) c3).ownBlock = some g → (Value.slice Av l.length cv).ownBlock = some g ∨ w2.heap.size < g) := by
    intro g hg
    rcases R.own with h | h
    · rw [h] at hg; exact .inl hg
    · rw [h] at hg; simp at hg; exact .inr (by omega)
  have hb0 : ∀ g, (Value.slice Av l.length cv).ownBlock = some g → g < w.heap.size := fun g hg => Row.own_lt HP.out.2.2 hg
  have bz3 : w3.heap[w.heap.size + 1]? = some (.cells zarr 32 (0, 0)) := R.chg.block _ _ (blk_alloc BZ2.out _) (fun h => by have := hb0 _ h.own; omega)
  have C3 : Hid (Chg (ParkX pb (.slice Av l.length cv)) w w3) := ((C2.out.trans ((Chg.refl w2).drew.alloc _)).ofNo).then R.chg (fun i o _ h => .inr h)
  have P4 : Hid (ParkAt (w3.setCell ⟨pb, 1, none⟩ (.slice A3 (l.length + 1) c3)) base pb most (l ++ [e]) lost (.slice A3 (l.length + 1) c3)) :=
    ⟨HP.out.1, blk_set b3 1 _, Row.chg hR3 (Chg.store w3 ⟨pb, 1, none⟩ _) (fun g _ _ hg _ h => Row.own_ne hR3 b3 (by decide) (by rw [hg]; exact congrArg some h))⟩
  have bz4 : (w3.setCell ⟨pb, 1, none⟩ (.slice A3 (l.length + 1) c3)).heap[w.heap.size + 1]? = some (.cells zarr 32 (0, 0)) := blk_set_ne bz3 (Ne.symm hne1) _
  have C4 : Hid (Chg (ParkX pb (.slice Av l.length cv)) w (w3.setCell ⟨pb, 1, none⟩ (.slice A3 (l.length + 1) c3))) :=
    C3.out.setCell (fun o ho => .inl ⟨rfl, by rw [HP.out.2.1] at ho; cases ho; exact ⟨_, _, rfl⟩⟩) _
  have BZ4 := Lib.hid bz4
  have nz3 : w2.heap.size + 1 ≤ w3.heap.size := by have := R.chg.size; simpa using this
  clear R hr3 hR3 b3 bz3 bz4 hb0
  go_wp2_with fail
  apply sigEnd
  go_wp2_with fail
  have sW4 : w2.heap.size + 1 ≤ (w3.setCell ⟨pb, 1, none⟩ (.slice A3 (l.length + 1) c3)).heap.size := by simpa [World.setCell] using nz3
  generalize w3.setCell ⟨pb, 1, none⟩ (.slice A3 (l.length + 1) c3) = W4 at P4 BZ4 C4 sW4 ⊢
  clear k3 f3 C3
  have y0 := blk_cell P4.out.2.1 0
  have y1 := blk_cell P4.out.2.1 1
  have hle : ¬ (l.length : Int) + 1 ≤ most := by omega
  have hrow4 := P4.out.2.2
  rw [show l.length + 1 = (l ++ [e]).length by simp] at hrow4
  obtain ⟨g, hA3, hbg, hcur4, hcell4⟩ := ERow.at hrow4 HF.out
  subst hA3
  obtain ⟨hE4, -, -⟩ := EAt.of hrow4
  have E4 := Lib.hid hE4
  have hb : ∀ j, j < 11 → W4.cell? ⟨g, j, none⟩ = f.cells[j]? := fun j hj => by have := hcell4 j hj; rwa [Nat.zero_mul, Nat.zero_add] at this
  have x_0 := hb 0 (by omega)
  have x_1 := hb 1 (by omega)
  have x_2 := hb 2 (by omega)
  have x_3 := hb 3 (by omega)
  have x_4 := hb 4 (by omega)
  have x_5 := hb 5 (by omega)
  have x_6 := hb 6 (by omega)
  have x_7 := hb 7 (by omega)
  have x_8 := hb 8 (by omega)
  have x_9 := hb 9 (by omega)
  have x_10 := hb 10 (by omega)
  simp only [Edu.cells, List.getElem?_cons_zero, List.getElem?_cons_succ, List.getElem?_toArray, Nat.add_zero] at x_0 x_1 x_2 x_3 x_4 x_5 x_6 x_7 x_8 x_9 x_10
  have hg4 : g < W4.heap.size := lt_of_blk hcur4.choose_spec
  have gp : pb ≠ g := blk_ne P4.out.2.1 hcur4.choose_spec (by decide)
  have gz : g ≠ w.heap.size + 1 := by
    rcases own3.out g rfl with h | h
    · have := Row.own_lt HP.out.2.2 h; omega
    · omega
  clear hb hcell4 hrow4 hE4 hcur4
  go_quiet (fail)
  go_wp2_with (refine wpList_store_row rfl 32 (.tmp 6) (.tmp 40) rfl W4.heap.size rfl f.arr rfl 32 zarr (blk_new (W4.drewN nq) _) (by kernel_rfl) rfl (arr_one f) ?_)
  intro w5 hb5 hc5 hs5
  have hc5n : Chg NoM W4 w5 := (((Chg.refl W4).drewN nq).alloc _).thenNew (hc5.mono (M' := fun i _ => i = W4.heap.size) (fun i o _ h => h.1)) (Nat.le_refl _)
  have C5 := Lib.hid (C4.out.trans hc5n.ofNo)
  have P5 := Lib.hid (P4.out.chgNo hc5n)
  have BZ5 := Lib.hid (hc5n.blkNo BZ4.out)
  have E5 : Hid (EAt w5 g c3 (l ++ [e])) := by
    obtain ⟨cur, q1, q2⟩ := E4.out
    exact ⟨cur, hc5n.blkNo q1, q2⟩
  have B5 := Lib.hid hb5
  have s5 := lt_of_blk hb5
  have k5 := blk_cell P5.out.2.1 1
  clear hb5 hc5 hs5 hc5n x_0 x_1 x_2 x_3 x_4 x_5 x_6 x_7 x_8 x_9 x_10 y0 y1
  go_wp2_with fail
  refine (delete_first g c3 l.length (l ++ [e]) w5 E5.out (by simp) hm).mono ?_
  rintro en w6 ⟨rfl, he6, hc6⟩
  have b6 := hc6.block _ _ P5.out.2.1 (fun h => gp h.1)
  have bf6 := hc6.block _ _ B5.out (fun h => by have := h.1; omega)
  have bz6 := hc6.block _ _ BZ5.out (fun h => gz h.1.symm)
  have k6 := blk_cell b6 1
  have f6 := blk_free b6 1
  have k62 := blk_cell b6 2
  have f62 := blk_free b6 2
  have hl6 : ((l ++ [e]).drop 1).length = l.length := by simp
  have r6 : ERow w6 base (.slice (some ⟨g, 0, none⟩) l.length c3) ((l ++ [e]).drop 1) := by
    have := he6.row (base := base) hbg
    rwa [hl6] at this
  have C6 : Hid (Chg (ParkX pb (.slice Av l.length cv)) w w6) := by
    refine C5.out.then hc6 ?_
    rintro i o hi ⟨rfl, h⟩
    rcases own3.out i rfl with h' | h'
    · exact .inr ⟨h', h⟩
    · have := lt_of_blk hi; omega
  have HX : Hid ((w6.setCell ⟨pb, 1, none⟩ (.slice (some ⟨g, 0, none⟩) l.length c3)).setCell ⟨pb, 2, none⟩ (.int .i64 (lost + 1)) = (w6.setCell ⟨pb, 1, none⟩ (.slice (some ⟨g, 0, none⟩) l.length c3)).setCell ⟨pb, 2, none⟩ (.int .i64 (lost + 1))) := rfl
  have P7 : Hid (ParkAt ((w6.setCell ⟨pb, 1, none⟩ (.slice (some ⟨g, 0, none⟩) l.length c3)).setCell ⟨pb, 2, none⟩ (.int .i64 (lost + 1))) base pb most ((l ++ [e]).drop 1) (lost + 1) (.slice (some ⟨g, 0, none⟩) l.length c3)) :=
    ⟨HP.out.1, blk_set (blk_set b6 1 _) 2 _, Row.chg (Row.chg r6 (Chg.store w6 ⟨pb, 1, none⟩ _) (fun k _ _ hk _ h => by simp [Value.ownBlock] at hk; have h' : k = pb := h; omega)) (Chg.store _ ⟨pb, 2, none⟩ _) (fun k _ _ hk _ h => by simp [Value.ownBlock] at hk; have h' : k = pb := h; omega)⟩
  have BF7 : Hid (((w6.setCell ⟨pb, 1, none⟩ (.slice (some ⟨g, 0, none⟩) l.length c3)).setCell ⟨pb, 2, none⟩ (.int .i64 (lost + 1))).heap[W4.heap.size]? = some (.cells f.arr 32 (0, 0))) := blk_set_ne (blk_set_ne bf6 (by show W4.heap.size ≠ pb; omega) _) (by show W4.heap.size ≠ pb; omega) _
  have BZ7 : Hid (((w6.setCell ⟨pb, 1, none⟩ (.slice (some ⟨g, 0, none⟩) l.length c3)).setCell ⟨pb, 2, none⟩ (.int .i64 (lost + 1))).heap[w.heap.size + 1]? = some (.cells zarr 32 (0, 0))) := blk_set_ne (blk_set_ne bz6 (Ne.symm hne1) _) (Ne.symm hne1) _
  have C7 : Hid (Chg (ParkX pb (.slice Av l.length cv)) w ((w6.setCell ⟨pb, 1, none⟩ (.slice (some ⟨g, 0, none⟩) l.length c3)).setCell ⟨pb, 2, none⟩ (.int .i64 (lost + 1)))) :=
    (C6.out.setCell (fun o ho => .inl ⟨rfl, by rw [HP.out.2.1] at ho; cases ho; exact ⟨_, _, rfl⟩⟩) _).setCell (fun o ho => .inl ⟨rfl, by rw [HP.out.2.1] at ho; cases ho; exact ⟨_, _, rfl⟩⟩) _
  clear he6 hc6 b6 bf6 bz6 r6 hl6 k5 HX
  go_wp2_with (first
    | (refine wpList_load_row rfl 32 (.tmp 6) rfl W4.heap.size rfl 32 f.arr (0, 0) _ BF7.out Try.underlying32 rfl (by kernel_rfl) ?_)
    | (refine wpList_store_row rfl 32 (.tmp 4) (.tmp 56) rfl (w.heap.size + 1) rfl f.arr rfl 32 zarr BZ7.out (by kernel_rfl) rfl (arr_one f) ?_))
  intro w8 hb8 hc8 hs8
  have C8 : Hid (Chg (ParkX pb (.slice Av l.length cv)) w w8) := C7.out.thenAll hc8 (fun i o h => by rw [h.1]; omega)
  have P8 : Hid (ParkAt w8 base pb most ((l ++ [e]).drop 1) (lost + 1) (.slice (some ⟨g, 0, none⟩) l.length c3)) := P7.out.chg hc8 (fun _ _ => BoxM.ne (by decide)) (fun k c f hk h => by
    simp [Value.ownBlock] at hk
    have := h.1
    omega)
  have hb : ∀ j, j < 11 → w8.cell? ⟨w.heap.size + 1, j, none⟩ = f.arr[j]? := fun j _ => blk_cell hb8 j
  have z_0 := hb 0 (by omega)
  have z_1 := hb 1 (by omega)
  have z_2 := hb 2 (by omega)
  have z_3 := hb 3 (by omega)
  have z_4 := hb 4 (by omega)
  have z_5 := hb 5 (by omega)
  have z_6 := hb 6 (by omega)
  have z_7 := hb 7 (by omega)
  have z_8 := hb 8 (by omega)
  have z_9 := hb 9 (by omega)
  have z_10 := hb 10 (by omega)
  simp only [Edu.cells, List.getElem?_cons_zero, List.getElem?_cons_succ, List.getElem?_toArray, Nat.add_zero] at z_0 z_1 z_2 z_3 z_4 z_5 z_6 z_7 z_8 z_9 z_10
  clear hb hb8 hc8 hs8
  go_wp2_with fail
  exact bodyPost_ret (v := .tuple #[f.agg, .bool true]) (by simp [results, Try.results11, go_sem, z_0, z_1, z_2, z_3, z_4, z_5, z_6, z_7, z_8, z_9, z_10]) rfl ⟨rfl, _, P8.out, (fun k hk => by rcases own3.out k hk with h | h; exact .inl h; exact .inr (by have := C2.out.size; omega)), C8.out⟩
end Go.Proofs.Ytccppjhkffmnaaa
